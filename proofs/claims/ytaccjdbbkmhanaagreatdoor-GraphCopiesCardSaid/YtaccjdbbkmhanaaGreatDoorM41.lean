import Derived.Test.YtaccjdbbkmhanaaGreatDoorM40
import Derived.Test.YtaccjdbbkmhanaaGreatDoorM33
import Derived.Test.YtaccjdbbkmhanaaGreatDoorM31
import Derived.Test.YtaccjdbbkmhanaaGreatDoorRows
import Derived.Test.YtaccjdbbkmhanaaGreatDoorM4
import Derived.ProofKit
import Derived.LaidMore
import Derived.OpenShut
import Derived.Stop.Joined
import Derived.Lib.LaidTab
import Derived.Carry
import Derived.Handed
import Derived.HandedShaped
import Derived.Deep.Strs
import Derived.ChangeMaps5
import Derived.Lib.SmallJoins
import Derived.Test.YtaccjdbbkmhanaaGreatDoorM7
/- The document's Copy. -/
namespace Go.Proofs.YtaccjdbbkmhanaaGreatDoor
namespace Big
open Go.RowKit
theorem ndsC_one' (l : List Nd) : ∀ u ∈ ndsC l, u.oneCell' = true := fun u hu => by
  unfold ndsC at hu
  obtain ⟨x, _, hu⟩ := List.mem_flatMap.1 hu
  simp only [ndC, List.mem_cons, List.not_mem_nil, or_false] at hu
  rcases hu with rfl | rfl | rfl | rfl | rfl <;> rfl
set_option maxHeartbeats 4000000 in
set_option maxRecDepth 100000 in
theorem rcopy_any (B g : Nat) (w : World) (ns : List Nd) (rv : Value) (h : GrR B g w ns rv) :
    Calls Tryz.prog 17 #[.pointer (some ⟨g, 0, none⟩)] w fun e w' => ∃ g2 rv2, e = .returned (.pointer (some ⟨g2, 0, none⟩)) ∧ GrR w.heap.size g2 w' ns rv2 ∧ Ext w w' := by
  have hfew := h.few
  have HOK := Lib.hid (And.intro h.ok h.few)
  obtain ⟨k0, f0, hgz⟩ := h.blk.oneG
  obtain ⟨i0, hif, hz0, hz1, hz2⟩ := info_parts info_node
  have HM := Lib.hid (World.ownsRow_made (base := w.heap.size) (e := 50) (size := 5) w #[] 0 (Nat.le_refl _) (Nat.zero_le _) rfl)
  have HX1 := Lib.hid ((Ext.refl w).alloc (.cells #[] 50))
  have HFN : Hid (∀ (W : World) (v : Value), OwnNd w.heap.size W v ns → Ext w W → GrR w.heap.size W.heap.size (W.alloc (.cells #[v] 46)) ns v ∧ Ext w (W.alloc (.cells #[v] 46))) := Lib.hid (fun W v hr hx => ⟨⟨Blk.new W _ _, hr.ext ((Ext.refl W).alloc _), hx.size, HOK.out.1, HOK.out.2⟩, hx.alloc _⟩)
  rcases h.row.cells with ⟨rfl, rfl⟩ | ⟨q, c, rfl, hc⟩
  · clear h
    go_enter Tryz.func17, Tryz.ntmps17
    go_wp2_with (at_builtin; go_must (refine wpList_append_own_none rfl _ _ 25 rfl w.heap.size 50 i0 5 Tryz.underlying25 hif (.slice (some ⟨w.heap.size, 0, none⟩) 0 0) 0 [] rfl HM.out rfl ?_))
    have hf := HFN.out _ (.slice (some ⟨w.heap.size, 0, none⟩) 0 0) HM.out HX1.out
    rw [World.size_alloc] at hf
    go_ret
    exact ⟨_, _, rfl, hf.1, hf.2⟩
  · have HC : Hid (∀ j u, (ndsC ns)[j]? = some u → (w.alloc (.cells #[] 50)).cell? ((⟨q, 0, none⟩ : Addr).add j) = some u) := Lib.hid (fun j u hj => by
      have h1 := HX1.out.keep (hc j u hj)
      have h2 : (⟨q, 0, none⟩ : Addr).add j = ⟨q, 0 + j, none⟩ := by
        unfold Addr.add
        split
        · rename_i h; subst h; rfl
        · simp
      rw [h2]
      exact h1)
    have HL := Lib.hid (show (ndsC ns).length = ns.length * 5 from ndsC_length ns)
    have HN1 : Hid (0 + ns.length ≤ maxLen) := Lib.hid (by unfold maxLen; omega)
    have HN2 : Hid ((0 + ns.length) * 48 ≤ 140737488355328) := Lib.hid (by omega)
    have HON := Lib.hid (ndsC_one' ns)
    clear h hc
    go_enter Tryz.func17, Tryz.ntmps17
    go_wp2_with (at_builtin; go_must (refine wpList_append_own _ rfl _ _ 25 rfl w.heap.size 50 i0 _ 5 48 Tryz.underlying25 hif hz0 hz1 hz2 rfl (by decide) (.slice (some ⟨w.heap.size, 0, none⟩) 0 0) 0 [] rfl HM.out ⟨q, 0, none⟩ ns.length c (ndsC ns) rfl HL.out HC.out HON.out HN1.out HN2.out (by simp) ?_; intro v' w' hown hgr _; have HE : Hid (OwnNd w.heap.size w' v' ns ∧ Ext w w') := Lib.hid ⟨(by unfold OwnNd; rw [Nat.zero_add, List.nil_append] at hown; exact hown), Below.grown HX1.out hgr (by simp) (fun k hk => by simp only [Value.ownBlock, Option.some.injEq] at hk; omega)⟩; clear hown hgr; obtain ⟨A9, c9, rfl⟩ := HE.out.1.shape))
    have HF := Lib.hid (HFN.out _ _ HE.out.1 HE.out.2)
    go_ret
    exact ⟨_, _, rfl, HF.out.1, HF.out.2⟩
end Big
end Go.Proofs.YtaccjdbbkmhanaaGreatDoor
/- GraphCopies. Printed by a program. -/
namespace Go.Proofs.YtaccjdbbkmhanaaGreatDoor
namespace Big
open Go.RowKit
/-- The same nodes, in a later world: far from another graph still. -/
theorem NdFar.swap {g1 b1 g2 b2 : Nat} {n1 n2 : Value} {w w' : World} {v : Value} {l : List Nd} (h1 : NdFar g1 b1 n1 w v l) (h2 : NdFar g2 b2 n2 w' v l) : NdFar g1 b1 n1 w' v l := by
  obtain ⟨A, c, rfl, k1⟩ := h1
  obtain ⟨A', c', he, k2⟩ := h2
  simp only [Value.slice.injEq] at he
  obtain ⟨rfl, _, rfl⟩ := he
  refine ⟨A, c, rfl, fun hp => ?_⟩
  obtain ⟨q, o, rfl, _, p2, p3, p4, _⟩ := k1 hp
  obtain ⟨q', o', he, r1, _, _, _, r5⟩ := k2 hp
  injection he with he
  injection he with he1 he2
  subst he1
  subst he2
  exact ⟨q, o, rfl, r1, p2, p3, p4, r5⟩
/-- The document's graph, where a program's graph that was there before it is changed. -/
theorem GrR.keepG {B gr g b : Nat} {w0 w w' : World} {ns ms : List Nd} {rv nv nv' : Value} (h : GrR w0.heap.size gr w ns rv) (hk : KG g b nv nv' w w') (hg : GrP B g b w0 ms nv) : GrR w0.heap.size gr w' ns rv := by
  have h1 := hg.lt
  have h2 := hg.map.lt
  have h3 := h.lo
  have key : ∀ k, w0.heap.size ≤ k → k < w.heap.size → w'.heap[k]? = w.heap[k]? := fun k hk0 hk1 => hk.block k hk1 (by omega) (by omega) (fun e => by have := ownsRow_ltG hg.row e; omega)
  exact ⟨(key gr h3 h.lt).trans h.blk, ownsRow_at h.row (fun k hk' => key k (ownsRow_block h.row k hk') (ownsRow_ltG h.row hk')), h.lo, h.ok, h.few⟩
/-- The program's graph, where a document's graph that was made beside it is changed. w1: where the document's graph was not yet there; w2: where it was. -/
theorem GrP.keepR {B g b gr : Nat} {w1 w2 w w' : World} {ns ms : List Nd} {nv nv0 rv rv' : Value} (h : GrP B g b w ns nv) (hk : KG gr gr rv rv' w w') (hg0 : g < w1.heap.size) (hb0 : b < w1.heap.size) (hn0 : ∀ j, nv0.ownBlock = some j → j < w1.heap.size)
    (hmv : ∀ j, nv.ownBlock = some j → nv0.ownBlock = some j ∨ w2.heap.size ≤ j) (hr : GrR w1.heap.size gr w2 ms rv) : GrP B g b w' ns nv := by
  have h1 := hr.lo
  have h2 := hr.lt
  have hrb : ∀ j, rv.ownBlock = some j → w1.heap.size ≤ j ∧ j < w2.heap.size := fun j hj => ⟨ownsRow_block hr.row j hj, ownsRow_ltG hr.row hj⟩
  have k1 : ∀ k, k < w1.heap.size → k < w.heap.size → w'.heap[k]? = w.heap[k]? := fun k p q => hk.block k q (by omega) (by omega) (fun e => by have := (hrb k e).1; omega)
  refine ⟨(k1 g hg0 h.lt).trans h.blk, ownsRow_at h.row (fun k hk' => ?_), h.map.kept (k1 b hb0 h.map.lt), h.lo, h.lo2, h.ok, h.few, h.low⟩
  have hlt := ownsRow_ltG h.row hk'
  rcases hmv k hk' with h5 | h5
  · exact k1 k (hn0 k h5) hlt
  · exact hk.block k hlt (by omega) (by omega) (fun e => by have := (hrb k e).2; omega)
theorem OwnNd.blkG {B : Nat} {w : World} {v : Value} {l : List Nd} (h : OwnNd B w v l) : (l = [] ∧ v = .slice none 0 0) ∨ ∃ q c cur, v = .slice (some ⟨q, 0, none⟩) l.length c ∧ Blk w q 50 cur ∧ B ≤ q ∧ l.length * 5 ≤ cur.size := by
  unfold OwnNd at h
  rcases h.2 with ⟨h1, h2⟩ | ⟨g, cap, cur, rfl, hb, hh, hc, hm, hs, _⟩
  · exact .inl ⟨List.eq_nil_of_length_eq_zero h2, by rw [h1]⟩
  · exact .inr ⟨g, cap, cur, rfl, hh, hb, by rw [hs]; exact Nat.mul_le_mul_right 5 hc⟩
set_option maxHeartbeats 4000000 in
set_option maxRecDepth 100000 in
theorem graphCopies_any (w : World) (v u : Value) (l m : List Int) (h : ArrI w v l) (h' : ArrI w u m) (hm : MaxV w) :
    Calls Tryz.prog 4 #[v, u] w fun e w' => e = .returned (.bool true) ∧ Ext w w' := by
  have HAW := Lib.hid (awake21_any w hm)
  have HM := Lib.hid hm
  have HL := Lib.hid h
  have HL2 := Lib.hid h'
  have HLT := Lib.hid (fun W hx => light_any W v l (HL.out.ext hx))
  have HLT2 := Lib.hid (fun W hx => light_any W u m (HL2.out.ext hx))
  obtain ⟨A0, c0, rfl, _⟩ := h.open
  obtain ⟨A9, c9, rfl, _⟩ := h'.open
  clear h h' hm
  by_cases hlt : 120 < l.length
  · have hd : decide (l.length ≤ 120) = false := decide_eq_false (by omega)
    rw [hd] at HLT
    clear HL HL2 hlt hd
    go_enter Tryz.func4, Tryz.ntmps4
    go_wp2_with fail
    refine HAW.out.mono ?_
    rintro e w1 ⟨rfl, hx1⟩
    have HX1 := Lib.hid hx1
    clear hx1
    go_wp2_with fail
    refine (HLT.out _ HX1.out).mono ?_
    rintro e w2 ⟨rfl, rfl⟩
    go_wp2_with fail
    go_ret
    exact ⟨rfl, HX1.out⟩
  have hd : decide (l.length ≤ 120) = true := decide_eq_true (by omega)
  rw [hd] at HLT
  have hll : l.length ≤ 120 := by omega
  clear hlt hd
  by_cases hlt2 : 120 < m.length
  · have hd : decide (m.length ≤ 120) = false := decide_eq_false (by omega)
    rw [hd] at HLT2
    clear HL HL2 hlt2 hd
    go_enter Tryz.func4, Tryz.ntmps4
    go_wp2_with fail
    refine HAW.out.mono ?_
    rintro e w1 ⟨rfl, hx1⟩
    have HX1 := Lib.hid hx1
    clear hx1
    go_wp2_with fail
    refine (HLT.out _ HX1.out).mono ?_
    rintro e w2 ⟨rfl, rfl⟩
    go_wp2_with fail
    refine (HLT2.out _ HX1.out).mono ?_
    rintro e w2 ⟨rfl, rfl⟩
    go_wp2_with fail
    go_ret
    exact ⟨rfl, HX1.out⟩
  have hd : decide (m.length ≤ 120) = true := decide_eq_true (by omega)
  rw [hd] at HLT2
  have hll2 : m.length ≤ 120 := by omega
  clear hlt2 hd
  go_enter Tryz.func4, Tryz.ntmps4
  go_wp2_with fail
  refine HAW.out.mono ?_
  rintro e w1 ⟨rfl, hx1⟩
  have HX1 := Lib.hid hx1
  clear hx1
  go_wp2_with fail
  refine (HLT.out _ HX1.out).mono ?_
  rintro e w2 ⟨rfl, rfl⟩
  go_wp2_with fail
  refine (HLT2.out _ HX1.out).mono ?_
  rintro e w2 ⟨rfl, rfl⟩
  go_wp2_with fail
  have HLW := Lib.hid (HL.out.ext HX1.out)
  refine (mgraph_any w1 _ l HLW.out (by omega)).mono ?_
  rintro e w2 ⟨gr, ns, rv, rfl, hgr, hns, hx2⟩
  have HGR := Lib.hid hgr
  have HX12 := Lib.hid hx2
  have HX2 := Lib.hid (HX1.out.trans hx2)
  obtain ⟨AR, cR, rfl⟩ := hgr.row.shape
  obtain ⟨k0, f0, hgz0⟩ := hgr.blk.oneG
  clear hgr hx2
  have HLO := Lib.hid (gload_any _ w2 _ ns HGR.out.row HGR.out.ok HGR.out.few (HM.out.ext HX2.out))
  go_wp2_with fail
  refine HLO.out.mono ?_
  rintro e w3 ⟨g, b, nv, rfl, hg, hx3⟩
  have HG := Lib.hid hg
  have HX23 := Lib.hid hx3
  have HX3 := Lib.hid (HX2.out.trans hx3)
  clear hg hx3 HLO k0 f0 hgz0
  go_wp2_with fail
  refine (gcopy_any _ g b w3 ns nv HG.out).mono ?_
  rintro e w4 ⟨g2, b2, nv2, rfl, hg, hx4⟩
  have HC := Lib.hid hg
  have HX34 := Lib.hid hx4
  have HX4 := Lib.hid (HX3.out.trans hx4)
  clear hg hx4
  go_wp2_with fail
  refine (rcopy_any _ gr w4 ns _ (HGR.out.keep (HX23.out.trans HX34.out))).mono ?_
  rintro e w5 ⟨gr2, rv2, rfl, hg, hx5⟩
  have HV := Lib.hid hg
  have HX45 := Lib.hid hx5
  have HX5 := Lib.hid (HX4.out.trans hx5)
  clear hg hx5
  go_wp2_with fail
  refine (new_any w5 _ m (HL2.out.ext HX5.out) (by omega)).mono ?_
  rintro e w6 ⟨rfl, ht, hx, hs⟩
  rw [← hs] at ht
  have HX56 := Lib.hid hx
  have HX6 := Lib.hid (HX5.out.trans hx)
  have HEX := Lib.hid (expr_any 5 w5.heap.size w6 _ m 0 false ht (by decide) (by decide))
  have hg5 : w5.heap.size ≤ w6.heap.size := hx.size
  have hgg : ∃ tg, tg = w5.heap.size := ⟨_, rfl⟩
  obtain ⟨tg, htg⟩ := hgg
  rw [← htg] at HEX ⊢
  have HTG := Lib.hid htg
  clear ht hx hs htg
  go_wp2_with fail
  refine HEX.out.mono ?_
  rintro e w7 ⟨x, v7, a7, rfl, hgdx, hsz, hdp, hown, htp, hk⟩
  rw [List.nil_append] at hown
  have hszx : x.size ≤ 31 := by have : 2 ^ 5 ≤ 32 := (by decide); omega
  have hdpx : x.depth ≤ 5 := hdp
  have HX57 := Lib.hid (hk.to_ext HX56.out (by omega) (by rw [HTG.out]; exact Nat.le_refl _))
  have HC6 := Lib.hid (HC.out.keep (HX45.out.trans HX56.out))
  have HV6 := Lib.hid (HV.out.keep HX56.out)
  have HF7 := Lib.hid (NdFar.new hown HC6.out)
  have HR7 := Lib.hid (NdFar.newR hown HV6.out)
  have HX7 := Lib.hid (HX5.out.trans HX57.out)
  have HC7 := Lib.hid (HC.out.keep (HX45.out.trans HX57.out))
  have HV7 := Lib.hid (HV.out.keep HX57.out)
  have HM7 := Lib.hid (HM.out.ext HX7.out)
  obtain ⟨A7, c7, rfl, _⟩ := HF7.out
  rw [flat_len] at HF7 HR7 ⊢
  have hs37 := (HX34.out.trans (HX45.out.trans HX57.out)).size
  have hs45 := HX45.out.size
  have hs57 := HX57.out.size
  clear hsz hdp hown htp hk HEX hg5
  go_wp2_with fail
  refine (add_graph w3.heap.size g2 b2 w7 ns nv2 _ x HC7.out HF7.out hgdx (by omega) (by omega) HM7.out (by omega)).mono ?_
  rintro r w8 ⟨nv3, rfl, hk, hg⟩
  have HK8 := Lib.hid hk
  have HC8 := Lib.hid hg
  have HB8 := Lib.hid (hk.below HC7.out)
  have HV8 := Lib.hid (HV7.out.keepG hk (HC.out))
  have HR8 := Lib.hid (HR7.out.swap (HF7.out.keep hk))
  have hs78 := hk.size
  clear hk hg
  have hlen8 := addG_len x ns
  go_wp2_with fail
  refine (radd_any w4.heap.size gr2 w8 ns rv2 _ x HV8.out HR8.out hgdx (by omega) (by omega) (by omega)).mono ?_
  rintro r w9 ⟨rv3, rfl, hk, hg⟩
  have HV9 := Lib.hid hg
  have HB9 := Lib.hid (hk.belowR HV8.out)
  have HC9 := Lib.hid (HC8.out.keepR (w1 := w4) (w2 := w5) (nv0 := nv2) hk HC.out.lt HC.out.map.lt (fun j hj => ownsRow_ltG HC.out.row hj) (fun j hj => by
    rcases HK8.out.move j hj with h5 | h5
    · exact .inl h5
    · exact .inr (by omega)) HV.out)
  have hs89 := hk.size
  clear hk hg
  have HX39 : Hid (Ext w3 w9) := Lib.hid (((HX34.out.trans (HX45.out.trans HX57.out)).more HB8.out).more (Below.mono HB9.out HX34.out.size))
  have HX29 := Lib.hid (HX23.out.trans HX39.out)
  have HX19 := Lib.hid (HX12.out.trans HX29.out)
  have HX9 := Lib.hid (HX1.out.trans HX19.out)
  have HG9 := Lib.hid (HG.out.keep HX39.out)
  have HW9 := Lib.hid (HGR.out.keep HX29.out)
  clear HK8 HB8 HB9 HC8 HV8 HR8 HC7 HV7 HF7 HR7 HC6 HV6 HM7 hs37 hs45 hs57 hs78 hs89 hlen8 HX7 HX57 HX56 HX45 HX34 HX23 HX12 HX5 HX4 HX3 HX2 HX6 HGR HG HC HV HLT HLT2 HAW HX1 HLW HL HL2 HTG HX19 HX29 HX39
  go_wp2_with fail
  refine (gnodes_any _ g b w9 ns nv HG9.out).mono ?_
  rintro e w10 ⟨v10, rfl, ho, hx⟩
  have HS1 := Lib.hid (fun W (hx : Ext w9 W) => same21_any _ g b _ gr W ns nv _ (HG9.out.keep hx) (HW9.out.keep hx))
  have HS2 := Lib.hid (fun W (hx : Ext w9 W) => same21_any _ g2 b2 _ gr2 W _ nv3 rv3 (HC9.out.keep hx) (HV9.out.keep hx))
  have HX10 := Lib.hid hx
  have hob := ho.blkG
  have hsq := hx.size
  generalize hpa : (addG ns x).1 = pa at *
  clear ho hx hpa HG9 HW9 HC9 HV9
  obtain ⟨n, hnn⟩ : ∃ n, n = ns.length := ⟨_, rfl⟩
  have hob' : (n = 0 ∧ v10 = .slice none 0 0) ∨ ∃ q c cur, v10 = .slice (some ⟨q, 0, none⟩) n c ∧ Blk w10 q 50 cur ∧ w9.heap.size ≤ q ∧ n * 5 ≤ cur.size := by
    rcases hob with ⟨h1, h2⟩ | h
    · exact .inl ⟨by rw [hnn, h1]; rfl, h2⟩
    · rw [hnn]; exact .inr h
  have hn75 : n ≤ 75 := by omega
  clear hob hnn
  rcases hob' with ⟨rfl, rfl⟩ | ⟨q, c, cur, rfl, hb, hq, hcs⟩
  · go_wp2_with fail
    go_loopw [70] (fun s70 wr => s70 = .int .i64 0 ∧ Ext w9 wr) (fun s70 _ => 0 - (intOf s70).toNat)
    case atStart => exact ⟨rfl, HX10.out⟩
    case round =>
      obtain ⟨rfl, hx⟩ := hrel
      have HXR := Lib.hid hx
      clear hx
      go_wp2_with fail
      refine (HS1.out _ HXR.out).mono ?_
      rintro e w12 ⟨rfl, hx12⟩
      have HX12 := Lib.hid (HXR.out.trans hx12)
      clear hx12
      go_wp2_with fail
      refine (HS2.out _ HX12.out).mono ?_
      rintro e w13 ⟨rfl, hx13⟩
      have HX13 := Lib.hid (HX9.out.trans (HX12.out.trans hx13))
      clear hx13
      go_wp2_with fail
      go_ret
      exact ⟨rfl, HX13.out⟩
  · have HBK := Lib.hid hb
    clear hb
    go_wp2_with fail
    go_loopw [70] (fun s70 wr => ∃ i : Nat, i ≤ n ∧ s70 = .int .i64 (i : Int) ∧ ∃ cur : Array Value, Blk wr q 50 cur ∧ n * 5 ≤ cur.size ∧ Ext w9 wr) (fun s70 _ => n - (intOf s70).toNat)
    case atStart => exact ⟨0, Nat.zero_le _, rfl, cur, HBK.out, hcs, HX10.out⟩
    case round =>
      clear HBK hcs cur HX10
      obtain ⟨i, hi, rfl, cur, hb, hcs, hx⟩ := hrel
      have HXR := Lib.hid hx
      by_cases hlt : i < n
      · have z0 := hb.cell (i * 5)
        rw [Array.getElem?_eq_getElem (show i * 5 < cur.size by omega)] at z0
        have f0 := hb.frozen (i * 5)
        have HSB := Lib.hid (hb.set_ (i * 5) (.int .i64 0))
        have HSX := Lib.hid (hx.setCell (p := ⟨q, i * 5, none⟩) hq (.int .i64 0))
        have HSC : Hid (n * 5 ≤ (cur.setIfInBounds (i * 5) (.int .i64 0)).size) := Lib.hid (by rw [Array.size_setIfInBounds]; exact hcs)
        generalize cur[i * 5] = old at *
        have hi0 : (0 : Int) ≤ (i : Int) := by omega
        have hin : (i : Int) < (n : Int) := by omega
        have hwi : IntKind.i64.wrap ((i : Int) + 1) = (i : Int) + 1 := IntWalk.i64_in _ (by omega)
        clear hb hx
        go_wp2_with fail
        go_roundw
        case rel => exact ⟨i + 1, hlt, by go_num, _, HSB.out, HSC.out, HSX.out⟩
        case measure => simp [intOf]; omega
      · clear hb hx hcs
        go_wp2_with fail
        refine (HS1.out _ HXR.out).mono ?_
        rintro e w12 ⟨rfl, hx12⟩
        have HX12 := Lib.hid (HXR.out.trans hx12)
        clear hx12
        go_wp2_with fail
        refine (HS2.out _ HX12.out).mono ?_
        rintro e w13 ⟨rfl, hx13⟩
        have HX13 := Lib.hid (HX9.out.trans (HX12.out.trans hx13))
        clear hx13
        go_wp2_with fail
        go_ret
        exact ⟨rfl, HX13.out⟩
end Big
end Go.Proofs.YtaccjdbbkmhanaaGreatDoor
/- The frame round a law's walk: the arguments opened; behind the call they read as they did. -/
namespace Go.Proofs.YtaccjdbbkmhanaaGreatDoor
open Go.ChangeShapes Go.WideShapes Go.ChangeAt Go.RowKit

section
variable {H : Type} {enc : TypeId × Value → H} {P : Program}
theorem trodAll_stays (hl : laidOutB P = true) {W W' : World} (hb : Big.Ext W W') : ∀ (ts : List TypeId) (vs : List Value) (ds : List (DataW H)) (ps : List MemPlace),
    (∀ t ∈ ts, P.readableRec t = true ∧ t < P.types.size) → DataW.TrodAll enc P W 0 (fun _ => true) true ts vs ds ps → (∀ x ∈ ps, x.block < W.heap.size) →
    DataW.TrodAll enc P W' 0 (fun b => decide (b < W.heap.size)) true ts vs ds ps
  | [], vs, ds, ps, _, h, _ => by
    obtain ⟨rfl, rfl, rfl⟩ := trodAll_nil h
    exact trodAll_mk0
  | t :: ts, vs, ds, ps, ht, h, hlt => by
    obtain ⟨v, vs', d, ds', p, q, rfl, rfl, rfl, h1, h2⟩ := trodAll_cons h
    exact trodAll_cons_mk (Below.trod hl (ht t (by simp)).1 (ht t (by simp)).2 h1 hb (fun x hx => hlt x (List.mem_append_left _ hx)))
      (trodAll_stays hl hb ts vs' ds' q (fun t' h' => ht t' (by simp [h'])) h2 (fun x hx => hlt x (List.mem_append_right _ hx)))

/-- What the row asks of a law that returned true and left what was there. -/
theorem post_true {f : Func} {s : ChangeSpec} {W W' : World} {args : Array Value} {ds gs : List (DataW H)} {before : List MemPlace} {tb : TypeId} (hl : laidOutB P = true)
    (hts : (f.params.toList.all fun t => P.readableRec t && decide (t < P.types.size)) = true) (hv : s.vars = []) (hr : f.resultTypes = #[tb]) (htb : P.underlying tb = some .bool)
    (hW : DataW.Whole enc P f.params.toList s.vars false W args.toList ds gs before) (hfn : s.fn H ds = { results := [.lit (.bool true)], args := ds }) (hb : Big.Ext W W') :
    s.post enc P f false true false false W args (.bool true) W' := by
  have hlt := hW.lt
  have hW' := hW
  obtain ⟨p, q, hA, hV, rfl, hfz, hnd⟩ := hW
  rw [hv] at hV
  obtain ⟨rfl, rfl⟩ := trodVars_none hV
  have hfn' : s.fn H (ds ++ []) = { results := [.lit (.bool true)], args := ds } := by rw [List.append_nil]; exact hfn
  refine ⟨ds, [], p ++ [], [], p, [], hW', ?_, ?_, ?_, hb.frame _, fun h => by cases h⟩
  · rw [hfn', hr]
    exact trodAll_mk1 (shut_bool htb _)
  · rw [hfn']
    exact trodAll_stays hl hb _ _ _ _ (fun t ht => by
      have := List.all_eq_true.1 hts t ht
      simpa using this) hA (fun x hx => hlt x (by simpa using hx))
  · rw [hfn', hv]
    rfl
end

/-- A law under its row's conditions, with the form of the world at its beginning. -/
theorem handed_and_shaped {H : Type} {enc : TypeId × Value → H} {a : Assume} {C : Checked} {os : Os} {f : FuncId} {fn : Func} {s : ChangeSpec} {conds : List PathCond} {apart fresh handsOn again : Bool} {X : World → Array Value → Prop}
    (hX : ∀ (w w' : World) (args : Array Value), w.heap = w'.heap → X w args → X w' args)
    (own : ownKnob C.prog.godebug = none) (started : os.Started) (noInit : C.prog.inits.idxOf? f = none) (hfn : C.prog.funcs[f]? = some fn)
    (witness : ∃ (w : World) (tape : Tape) (i : Input), w.os = os ∧ (w.forCall tape i).Shaped C.prog ∧ i.vars = [] ∧ Input.okWide C.prog (w.forCall tape i) .any w.heap.size f i ∧
      ((s.pre enc C.prog fn conds apart (w.forCall tape i).memory i.args ∧ X (w.forCall tape i).memory i.args) ∧ sizedMet enc C.prog fn (OpenSpec.ofChange s) apart (w.forCall tape i).memory i.args) ∧ a.holds C.prog (lone (Frame.enter C.prog f i.args .normal) [] (w.forCall tape i)))
    (contract : ∀ (W : World) (base : Nat) (args : Array Value) (ds gs : List (DataW H)) (before : List MemPlace),
      (∀ (j : Nat) t v, fn.params[j]? = some t → args[j]? = some v → Value.okWide C.prog W .any base t v) →
      DataW.Whole enc C.prog fn.params.toList s.vars apart W args.toList ds gs before →
      (DataW.weightsEach C.prog (fn.params.toList ++ s.plain.varTypes C.prog) (ds ++ gs)).all (· ≤ reachBytes) = true → X W args → W.ShapedOpen C.prog →
      Calls C.prog f args W fun e W' => ∃ v, e = .returned v ∧ s.post enc C.prog fn apart fresh handsOn again W args v W') :
    ReturnsInHanded a C os f .any (fun w args => (s.pre enc C.prog fn conds apart w args ∧ X w args) ∧ sizedMet enc C.prog fn (OpenSpec.ofChange s) apart w args) (s.post enc C.prog fn apart fresh handsOn again) := by
  refine returnsInHanded_of_calls own started noInit witness ?_
  intro w tape i _ hsh _ hok hpre hholds
  obtain ⟨_, _, _, fn', hfn', _, _, _, _, hval⟩ := hok
  have e : fn' = fn := Option.some.inj (hfn'.symm.trans hfn)
  subst e
  obtain ⟨⟨⟨ds, gs, before, hw, hc⟩, hx⟩, hz⟩ := hpre
  have hw' := DataW.Whole.of_heap (w' := w.forCall tape i) (by rfl) hw
  refine (contract (w.forCall tape i) w.heap.size i.args ds gs before hval hw' (hz.weights hw) (hX _ _ _ (by rfl) hx) hsh).mono fun e W' ⟨v, he, hp⟩ => ?_
  subst he
  exact ChangeSpec.post_blind hp

theorem laid_out : laidOutB Tryz.prog = true := by kernel_rfl
theorem own : ownKnob Tryz.prog.godebug = none := by kernel_rfl

section
variable {P : Program} {W : World}
end

section
variable {H : Type} {enc : TypeId × Value → H} {W : World} {fuel : Nat} {v : Value} {y : DataW H × List MemPlace}
end
section
variable {H : Type} {enc : TypeId × Value → H} {W : World} {v : Value} {d : DataW H} {p : List MemPlace} {r : Reach} {b0 : Nat}
end
end Go.Proofs.YtaccjdbbkmhanaaGreatDoor
/- A list of integers that came in. -/
namespace Go.Proofs.YtaccjdbbkmhanaaGreatDoor
open Go.ChangeShapes Go.WideShapes Go.ChangeAt Go.RowKit
theorem cellsOf_i64 : Tryz.prog.cellsOf 3 = 1 := by kernel_rfl
section
variable {H : Type} {enc : TypeId × Value → H} {W : World} {v : Value} {d : DataW H} {p : List MemPlace} {r : Reach} {b0 : Nat}
theorem nums_of_trod {fuel : Nat} {y : DataW H × List MemPlace} (h : DataW.trod enc Tryz.prog W 0 (fun _ => true) true fuel 22 [v] = some y) : ∃ xs, Big.ArrI W v xs := by
  rcases open_ints Tryz.underlying22 Tryz.underlying3 cellsOf_i64 h with ⟨hv, _⟩ | ⟨a, len, cap, zs, hv, _, hl, hm, hz, _, hc, hw⟩
  · injection hv with hv
    subst hv
    exact ⟨[], ⟨(fun x hx => by cases hx), Big.RArr.none_ W⟩⟩
  · injection hv with hv
    subst hv
    simp only [if_true] at hz
    refine ⟨zs.take len, fun x hx => bounds_i64 (hw x (List.mem_of_mem_take hx)), some a, cap, by simp; omega, by simp; omega, hm, fun hp => ?_⟩
    simp only [List.length_map, List.length_take] at hp
    obtain ⟨b, off, rfl, hcell⟩ := ints_at hc (by omega)
    have h0 := hcell 0 (by omega)
    refine ⟨b, off, rfl, World.block_lt_of_cell? W _ h0, fun j u hj => ?_⟩
    rw [List.getElem?_map] at hj
    have hjl : j < len := by
      rcases Nat.lt_or_ge j len with h | h
      · exact h
      · rw [List.getElem?_eq_none (by simp; omega)] at hj; cases hj
    have hj2 : j < zs.length := by omega
    rw [List.getElem?_take_of_lt hjl, List.getElem?_eq_getElem hj2] at hj
    injection hj with hj
    subst hj
    rw [hcell j (by omega)]
    have e1 : zs.getD j 0 = zs[j] := by rw [List.getD_eq_getElem?_getD, List.getElem?_eq_getElem hj2]; rfl
    rw [e1]
    rfl
set_option maxRecDepth 100000 in
theorem open_nums (hv : Value.okWide Tryz.prog W r b0 22 v) (h : DataW.Trod enc Tryz.prog W 0 (fun _ => true) true 22 v d p) : ∃ xs, Big.ArrI W v xs := by
  obtain ⟨a, len, cap, rfl⟩ := okWide_slice Tryz.underlying22 hv
  obtain ⟨fuel, hf⟩ := h
  obtain ⟨xs, hxs⟩ := nums_of_trod (by simpa [Value.cells] using hf)
  exact ⟨xs, hxs⟩
end
end Go.Proofs.YtaccjdbbkmhanaaGreatDoor
