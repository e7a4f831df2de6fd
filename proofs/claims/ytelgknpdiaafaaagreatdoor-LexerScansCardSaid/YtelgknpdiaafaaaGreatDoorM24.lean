import Derived.Test.YtelgknpdiaafaaaGreatDoorM16
import Derived.Test.YtelgknpdiaafaaaGreatDoorM4
import Derived.Test.YtelgknpdiaafaaaGreatDoorM15
import Derived.Test.YtelgknpdiaafaaaGreatDoorM17
import Derived.Test.YtelgknpdiaafaaaGreatDoorM23
import Derived.Test.YtelgknpdiaafaaaGreatDoorM13
import Derived.Test.YtelgknpdiaafaaaGreatDoorRows
import Derived.Test.YtelgknpdiaafaaaGreatDoorM3
import Derived.ProofKit
import Derived.LaidMore
import Derived.OpenShut
import Derived.Stop.Joined
import Derived.Lib.LaidTab
import Derived.Carry
import Derived.Handed
import Derived.HandedShaped
import Derived.Deep.Strs
import Derived.ChangeMaps5
import Derived.Lib.SmallJoins
import Derived.Test.YtelgknpdiaafaaaGreatDoorM18
/- Bytes of a text in memory, one of them set. -/
namespace Go.Proofs.YtelgknpdiaafaaaGreatDoor
namespace Big
open Go.RowKit
theorem bytesAt_frozen (w : World) (l : List UInt8) (j : Nat) (h : j < l.length) : (bytesAt w l).frozen? ⟨w.heap.size, j, none⟩ = false := by
  have hs : l.length ≤ (Lib.bytesCells w 5 ⟨l.toArray⟩).size := by
    unfold Lib.bytesCells
    simp
  unfold bytesAt World.frozen?
  rw [Lib.bytesWorld_at_new]
  simp
  omega
theorem RArr.set {w : World} {g o n c i : Nat} {vs : List Value} {u : Value} (h : RArr w (.slice (some ⟨g, o, none⟩) n c) vs) (hi : i < vs.length) :
    RArr (w.setCell ⟨g, o + i, none⟩ u) (.slice (some ⟨g, o, none⟩) n c) (vs.set i u) := by
  obtain ⟨A, c', he, h2, h3, h4⟩ := h
  injection he with he1 he2 he3
  subst he1
  subst he3
  subst he2
  refine ⟨_, c, by rw [List.length_set], by rw [List.length_set]; exact h2, h3, fun hp => ?_⟩
  obtain ⟨b, o', ha, hlt, hc⟩ := h4 (by omega)
  injection ha with ha
  injection ha with ha1 ha2 _
  subst ha1
  subst ha2
  refine ⟨g, o, rfl, by simpa [World.setCell] using hlt, fun j v hj => ?_⟩
  rw [List.getElem?_set] at hj
  by_cases hij : i = j
  · subst hij
    rw [if_pos rfl, if_pos hi] at hj
    injection hj with hj
    subst hj
    exact World.cell?_setCell_same _ _ _ (hc i _ (List.getElem?_eq_getElem hi))
  · rw [if_neg hij] at hj
    rw [World.cell?_setCell_other _ _ _ _ (fun e => hij (by injection e with _ e _; omega))]
    exact hc j v hj
theorem bytesAt_arr (w : World) (l : List UInt8) (c : Nat) (hl : l.length ≤ 1073741824) (hc : l.length ≤ c) (hm : c ≤ maxLen) : Arr8 (bytesAt w l) (.slice (some ⟨w.heap.size, 0, none⟩) l.length c) l := by
  refine ⟨_, c, by rw [List.length_map], by rw [List.length_map]; exact hc, hm, fun _ => ⟨w.heap.size, 0, rfl, bytesAt_lt w l, fun j u hj => ?_⟩⟩
  have hjl : j < l.length := by
    rcases Nat.lt_or_ge j l.length with h | h
    · exact h
    · rw [List.getElem?_eq_none (by simpa using h)] at hj; cases hj
  rw [map_d8_get hjl] at hj
  injection hj with hj
  subst hj
  rw [Nat.zero_add, bytesAt_cell w l j hjl, byteAt_eq l j hjl]
  rfl
theorem run_bytesAt2 (w : World) (l : List UInt8) (hl : l.length ≤ 1073741824) : ∃ c, (convert 9 27 (str l)).run Tryz.prog w = .ok (.slice (some ⟨w.heap.size, 0, none⟩) l.length c) (bytesAt w l) ∧
    Arr8 (bytesAt w l) (.slice (some ⟨w.heap.size, 0, none⟩) l.length c) l := by
  have := Lib.run_convert_string_bytes (P := Tryz.prog) w 9 27 5 ⟨l.toArray⟩ Tryz.underlying9 Tryz.underlying27 Tryz.underlying5
  rw [size_str] at this
  exact ⟨_, this, bytesAt_arr w l _ hl (grownCap_ge w l.length 0 _) (grownCap_le_maxLen w l.length 0 _ (by unfold maxLen; omega))⟩
theorem Arr8.set {w : World} {g n c i : Nat} {l : List UInt8} {b : UInt8} (h : Arr8 w (.slice (some ⟨g, 0, none⟩) n c) l) (hi : i < l.length) :
    Arr8 (w.setCell ⟨g, i, none⟩ (d8 b)) (.slice (some ⟨g, 0, none⟩) n c) (l.set i b) := by
  have h1 := RArr.set (u := d8 b) h (i := i) (by simpa using hi)
  rw [Nat.zero_add] at h1
  unfold Arr8
  rw [List.map_set]
  exact h1
/-- A row that was there before these bytes was written: they stand. -/
theorem Arr8.kept {w w' wa : World} {g n c B : Nat} {l : List UInt8} {t : TypeId} {u : Value} {us : List Value} (h : Arr8 w (.slice (some ⟨g, 0, none⟩) n c) l) (k : ROwn t B wa u us) (hg : wa.heap.size ≤ g) (hgr : w.grownBy w' (rowOf u)) :
    Arr8 w' (.slice (some ⟨g, 0, none⟩) n c) l := by
  obtain ⟨A, c', he, h2, h3, h4⟩ := h
  injection he with he1 he2 he3
  subst he1
  subst he3
  subst he2
  refine ⟨_, c, rfl, h2, h3, fun hp => ?_⟩
  obtain ⟨b, o, hbo, hlt, hc⟩ := h4 hp
  injection hbo with hbo
  injection hbo with hb ho _
  subst hb
  subst ho
  have hne : some g ≠ rowOf u := by
    obtain ⟨A', c', rfl, k2, k3, k4⟩ := k
    rcases k4 with ⟨_, rfl⟩ | ⟨g', cur', rfl, _, kblk, _, _⟩
    · rcases A' with _ | a <;> simp [rowOf]
    · simp only [rowOf]
      split
      · simp
      · intro he
        injection he with he
        have := kblk.lt
        omega
  exact ⟨g, 0, rfl, Nat.lt_of_lt_of_le hlt hgr.size, fun j v hj => (World.cell?_of_block (w := w) (a := ⟨g, 0 + j, none⟩) (hgr.block g hlt hne)).trans (hc j v hj)⟩
end Big
end Go.Proofs.YtelgknpdiaafaaaGreatDoor
/- LexerScans. -/
namespace Go.Proofs.YtelgknpdiaafaaaGreatDoor
namespace Big
open Go.RowKit
theorem nodeT_ne (e : Ex) (h : e.Good) : nodeT fmtI e ≠ [] := by
  cases e with
  | leaf k t =>
    unfold nodeT
    rcases h with ⟨rfl, h, _⟩ | ⟨rfl, h⟩ | ⟨rfl | rfl, _⟩
    · intro he
      have he2 : t = [] := he
      rw [he2] at h
      revert h
      decide
    · intro he
      have he2 : t = [] := he
      rw [he2] at h
      revert h
      decide
    · simp
    · simp
  | un k n x =>
    unfold nodeT
    split
    · simp
    · split <;> simp
  | bin k x y =>
    unfold nodeT
    have := signT_len k
    intro he
    have h2 := congrArg List.length he
    simp at h2
    have := h2.2.1
    rw [this] at *
    simp_all
theorem wayT_pos (m : Int) (s : List UInt8) (h : s ≠ []) : 0 < (wayT m s).length := by
  unfold wayT
  split
  · simp
  · split
    · simp
    · exact List.length_pos_iff.2 h
set_option maxHeartbeats 2000000 in
set_option maxRecDepth 100000 in
theorem lexerScans_any (w : World) (s : List UInt8) (v : Value) (l : List Int) (at_ : Int) (d : UInt8) (h : ArrI w v l) (ha : -9223372036854775808 ≤ at_ ∧ at_ ≤ 9223372036854775807) (hm : MaxV w) :
    Calls Tryz.prog 3 #[str s, v, .int .i64 at_, .int .u8 (d.toNat : Int)] w fun e w' => e = .returned (.bool true) ∧ Ext w w' := by
  have HAW := Lib.hid (awake18_any w hm)
  have HM := Lib.hid hm
  have HL := Lib.hid h
  have HLT := Lib.hid (fun W hx => light_any W v l (HL.out.ext hx))
  obtain ⟨A0, c0, rfl, _⟩ := h.open
  clear h hm
  rcases Nat.lt_or_ge 500 s.length with hs | hs
  · have h' : (500 : Int) < (s.length : Int) := by omega
    clear hs HL HLT
    go_enter Tryz.func3, Tryz.ntmps3
    go_wp2_with fail
    refine HAW.out.mono ?_
    rintro e w1 ⟨rfl, hx1⟩
    have HX1 := Lib.hid hx1
    clear hx1
    go_wp2_with fail
    go_ret
    exact ⟨rfl, HX1.out⟩
  have h' : ¬ (500 : Int) < (s.length : Int) := by omega
  by_cases hlt : 120 < l.length
  · have hd : decide (l.length ≤ 120) = false := decide_eq_false (by omega)
    rw [hd] at HLT
    clear HL hlt hd
    go_enter Tryz.func3, Tryz.ntmps3
    go_wp2_with fail
    refine HAW.out.mono ?_
    rintro e w1 ⟨rfl, hx1⟩
    have HX1 := Lib.hid hx1
    clear hx1
    go_wp2_with fail
    refine (HLT.out _ HX1.out).mono ?_
    rintro e w2 ⟨rfl, rfl⟩
    go_wp2_with fail
    go_ret
    exact ⟨rfl, HX1.out⟩
  have hd : decide (l.length ≤ 120) = true := decide_eq_true (by omega)
  rw [hd] at HLT
  have hll : l.length ≤ 120 := by omega
  clear hlt hd
  go_enter Tryz.func3, Tryz.ntmps3
  go_wp2_with fail
  refine HAW.out.mono ?_
  rintro e w1 ⟨rfl, hx1⟩
  have HX1 := Lib.hid hx1
  clear hx1
  go_wp2_with fail
  refine (HLT.out _ HX1.out).mono ?_
  rintro e w2 ⟨rfl, rfl⟩
  go_wp2_with fail
  refine (new_any _ _ l (HL.out.ext HX1.out) (by omega)).mono ?_
  rintro e w2 ⟨rfl, ht2, hx2, hs2⟩
  rw [← hs2] at ht2
  have HX2 := Lib.hid (HX1.out.trans hx2)
  have hg2 : w.heap.size ≤ w1.heap.size := HX1.out.size
  have hg3 : w.heap.size ≤ w2.heap.size := HX2.out.size
  have HEX := Lib.hid (expr_any 5 w1.heap.size w2 _ l 0 false ht2 (by decide) (by decide))
  generalize w1.heap.size = g at *
  clear ht2 hx2 hs2 HLT
  go_wp2_with fail
  refine HEX.out.mono ?_
  rintro e w3 ⟨x, v3, a3, rfl, hgd, hsz, hdp, hown, htp, hk⟩
  have HTX := Lib.hid (text_any w2.heap.size g w3 _ l a3 v3 x htp hk.size (by rw [List.nil_append] at hown; exact hown.read) hgd (by have : 2 ^ 5 ≤ 32 := (by decide); omega) (by omega))
  have HKB := Lib.hid hk
  obtain ⟨A3, c3, rfl⟩ := hown.shape
  have htl := wayT_len (nextV l a3 4) (nodeT fmtI x)
  have htl2 := nodeT_len fmtI fmtI_len x hgd
  have htt0 := wayT_pos (nextV l a3 4) (nodeT fmtI x) (nodeT_ne x hgd)
  have hsz2 : x.size ≤ 31 := by have : 2 ^ 5 ≤ 32 := (by decide); omega
  have htt : (wayT (nextV l a3 4) (nodeT fmtI x)).length ≤ 13000 := by omega
  generalize wayT (nextV l a3 4) (nodeT fmtI x) = tt at *
  clear hgd hsz hdp hown htp hk htl htl2 hsz2
  go_wp2_with fail
  refine HTX.out.mono ?_
  rintro e w4 ⟨rfl, _, hk4⟩
  have HX4 := Lib.hid ((HKB.out.trans hk4).to_ext HX2.out hg3 hg2)
  clear hk4 HTX HKB HEX hg2 hg3
  obtain ⟨cb, hcv, harr⟩ := run_bytesAt2 w4 tt (by omega)
  have hmz := Int.emod_nonneg at_ (show (tt.length : Int) ≠ 0 by omega)
  have hmt := Int.emod_lt_of_pos at_ (show (0 : Int) < (tt.length : Int) by omega)
  have HMD := Lib.hid (fun W => mod_any W at_ tt.length ha.1 ha.2 (by omega) (by omega))
  generalize at_ % (tt.length : Int) = ai at *
  obtain ⟨i, rfl⟩ := Int.eq_ofNat_of_zero_le hmz
  have hi2 : i < tt.length := by omega
  have hci := bytesAt_cell w4 tt i hi2
  have hfi := bytesAt_frozen w4 tt i hi2
  have hxb := bytesAt_ext w4 tt
  have hlt4 := bytesAt_lt w4 tt
  generalize bytesAt w4 tt = wb at *
  have HARR0 := Lib.hid harr
  have hst : ∀ w', Ext wb w' → (convert 27 9 (.slice (some ⟨w4.heap.size, 0, none⟩) tt.length cb)).run Tryz.prog w' = .ok (str tt) w' := fun w' h => run_string8 (harr.ext h)
  have hst0 := hst wb (Ext.refl wb)
  have HXB := Lib.hid (HX4.out.trans hxb)
  have hgw := HX4.out.size
  clear harr hxb hst ha hmz hmt
  have htp : (0 : Int) < (tt.length : Int) := by omega
  go_wp2_with fail
  refine (HMD.out _).mono ?_
  rintro e w5 ⟨rfl, rfl⟩
  have hci2 : (wb.alloc (.cells #[str s, str tt] 9)).cell? ⟨w4.heap.size, i, none⟩ = some (.int .u8 (byteAt tt i : Int)) := (((Ext.refl wb).alloc (.cells #[str s, str tt] 9)).cell (by omega)).trans hci
  have hfi2 : (wb.alloc (.cells #[str s, str tt] 9)).frozen? ⟨w4.heap.size, i, none⟩ = false := (((Ext.refl wb).alloc (.cells #[str s, str tt] 9)).frozen (by omega)).trans hfi
  have hszc : (wb.setCell ⟨w4.heap.size, i, none⟩ (.int .u8 (d.toNat : Int))).heap.size = wb.heap.size := by simp [World.setCell]
  have hset := Arr8.set (b := d) HARR0.out hi2
  simp only [d8] at hset
  have HARR := Lib.hid (hset.ext ((Ext.refl (wb.setCell ⟨w4.heap.size, i, none⟩ (.int .u8 (d.toNat : Int)))).alloc (.cells #[str s, str tt] 9)))
  have HX6 := Lib.hid ((HXB.out.setCell (p := ⟨w4.heap.size, i, none⟩) hgw (.int .u8 (d.toNat : Int))).alloc (.cells #[str s, str tt] 9))
  have hob := OwnS.block (B := wb.heap.size) (ls := [s, tt]) (Blk.new (wb.setCell ⟨w4.heap.size, i, none⟩ (.int .u8 (d.toNat : Int))) 9 _) (by rw [hszc]; exact Nat.le_refl _) (by simp)
  rw [hszc] at hob
  have HSB : Hid (OwnS wb.heap.size ((wb.setCell ⟨w4.heap.size, i, none⟩ (.int .u8 (d.toNat : Int))).alloc (.cells #[str s, str tt] 9)) (.slice (some ⟨wb.heap.size, 0, none⟩) 2 2) [s, tt]) := Lib.hid hob
  have hgz : wb.heap.size ≤ ((wb.setCell ⟨w4.heap.size, i, none⟩ (.int .u8 (d.toNat : Int))).alloc (.cells #[str s, str tt] 9)).heap.size := by simp [World.setCell]
  have hst3 := run_string8 HARR.out
  have hsl3 : (tt.set i d).length ≤ 13000 := by rw [List.length_set]; exact htt
  clear hst0 hci hfi HARR0 hset hob
  go_upto_region 10 with fail
  generalize ((wb.setCell ⟨w4.heap.size, i, none⟩ (.int .u8 (d.toNat : Int))).alloc (.cells #[str s, str tt] 9)) = wc at *
  generalize tt.set i d = sb at *
  clear hci2 hfi2
  have HLM : Hid ([s, tt].length + [sb].length ≤ 2147483648) := Lib.hid (by simp)
  have hgy : wb.heap.size ≤ (wc.alloc (.cells #[str sb] 9)).heap.size := by simp; omega
  go_wp2_with (at_builtin; go_must (refine wpList_appendS rfl _ _ rfl rfl (HSB.out.ext ((Ext.refl _).alloc _)) rfl (ArrS.fresh1 _ sb) HLM.out hgy ?_; intro v' w' hown' hgr hb1; have HO9 := Lib.hid hown'; have HB9 := Lib.hid hb1; obtain ⟨n9, A9, c9, rfl⟩ := hown'.arr.shape; have hn9 := hown'.arr.len; clear hown' hgr hb1))
  have hn9b : n9 = 3 := hn9
  subst hn9b
  have HXW : Hid (Ext w w') := Lib.hid ((HX6.out.alloc _).more (Below.mono HB9.out HXB.out.size))
  have HRD := Lib.hid HO9.out.arr
  obtain ⟨sv, hsv⟩ : ∃ sv, sv = [s, tt] ++ [sb] := ⟨_, rfl⟩
  rw [← hsv] at HRD HO9
  have hn3 : sv.length = 3 := by rw [hsv]; rfl
  clear hsv hn9 HB9 HO9 HSB HX6 HXB HLM hst3 hcv hgw hgz hgy hlt4
  generalize w' = wz at *
  go_wp2_with fail
  go_loopw [58] (fun i wr => ∃ k : Nat, k ≤ 3 ∧ i = .int .i64 k ∧ ArrS wr (.slice A9 3 c9) sv ∧ Ext w wr) (fun i _ => 3 - (intOf i).toNat)
  case atStart => exact ⟨0, by omega, rfl, HRD.out, HXW.out⟩
  case round =>
    obtain ⟨k, hk, rfl, harr, hext⟩ := hrel
    have HA := Lib.hid harr
    have HX7 := Lib.hid hext
    by_cases hlt : k < 3
    · obtain ⟨A', c', hv, _, _, hcell⟩ := harr.open
      injection hv with hv hv1 hv2
      clear hv1 hv2
      subst hv
      obtain ⟨b, o, hbo, _, hcells⟩ := hcell (by rw [hn3]; omega)
      clear hcell
      subst hbo
      have hx := hcells k (by rw [hn3]; exact hlt)
      clear hcells harr hext
      generalize sv[k] = y at *
      have hki : (k : Int) < 3 := by omega
      have HO1 := Lib.hid (fun W hx => scan_any W y (HM.out.ext hx))
      have HO2 := Lib.hid (fun W hx => rscan_any W y (HM.out.ext hx))
      have HLEN := Lib.hid (scanT_len y)
      unfold ScanRes at HO1 HO2
      generalize (scanT y).2.1 = sk at *
      generalize (scanT y).2.2 = se at *
      generalize (scanT y).1 = ts at *
      have q1 : ((sk : Int) != (sk : Int)) = false := by simp
      have q2 : ((se : Int) != (se : Int)) = false := by simp
      go_wp2_with fail
      refine (HO1.out _ HX7.out).mono ?_
      rintro e w5 ⟨v5, rfl, hr5, hx5⟩
      obtain ⟨A5, c5, rfl⟩ := ownsRow_shape hr5
      have HR5 := Lib.hid (TokRow.of hr5)
      have HX5 := Lib.hid (HX7.out.trans hx5)
      have HA5 := Lib.hid (HA.out.ext hx5)
      clear hr5 hx5
      go_wp2_with fail
      refine (HO2.out _ HX5.out).mono ?_
      rintro e w6 ⟨v6, rfl, hr6, hx6⟩
      obtain ⟨A6, c6, rfl⟩ := ownsRow_shape hr6
      have HSM := Lib.hid (fun W hd => rsame_any W _ _ ts ((HR5.out.ext hx6).dr hd) ((TokRow.of hr6).dr hd) HLEN.out)
      have HX6 := Lib.hid (HX5.out.trans hx6)
      have HA6 := Lib.hid (HA5.out.ext hx6)
      clear hr6 hx6
      go_wp2_with fail
      refine (HSM.out _ (Dr.refl w6)).mono ?_
      rintro e w7 ⟨rfl, hd7⟩
      have HX8 := Lib.hid (HX6.out.trans hd7.ext)
      have HA8 := Lib.hid (HA6.out.ext hd7.ext)
      clear hd7
      go_wp2_with fail
      go_roundw
      case rel => exact ⟨k + 1, by omega, by go_num, HA8.out, HX8.out⟩
      case measure => simp [intOf]; omega
    · obtain rfl : k = 3 := by omega
      clear harr hext
      go_wp2_with fail
      go_ret
      exact ⟨rfl, HX7.out⟩
end Big
end Go.Proofs.YtelgknpdiaafaaaGreatDoor
/- The frame round a law's walk: the arguments opened; behind the call they read as they did. -/
namespace Go.Proofs.YtelgknpdiaafaaaGreatDoor
open Go.ChangeShapes Go.WideShapes Go.ChangeAt Go.RowKit

section
variable {H : Type} {enc : TypeId × Value → H} {P : Program}
theorem trodAll_stays (hl : laidOutB P = true) {W W' : World} (hb : Big.Ext W W') : ∀ (ts : List TypeId) (vs : List Value) (ds : List (DataW H)) (ps : List MemPlace),
    (∀ t ∈ ts, P.readableRec t = true ∧ t < P.types.size) → DataW.TrodAll enc P W 0 (fun _ => true) true ts vs ds ps → (∀ x ∈ ps, x.block < W.heap.size) →
    DataW.TrodAll enc P W' 0 (fun b => decide (b < W.heap.size)) true ts vs ds ps
  | [], vs, ds, ps, _, h, _ => by
    obtain ⟨rfl, rfl, rfl⟩ := trodAll_nil h
    exact trodAll_mk0
  | t :: ts, vs, ds, ps, ht, h, hlt => by
    obtain ⟨v, vs', d, ds', p, q, rfl, rfl, rfl, h1, h2⟩ := trodAll_cons h
    exact trodAll_cons_mk (Below.trod hl (ht t (by simp)).1 (ht t (by simp)).2 h1 hb (fun x hx => hlt x (List.mem_append_left _ hx)))
      (trodAll_stays hl hb ts vs' ds' q (fun t' h' => ht t' (by simp [h'])) h2 (fun x hx => hlt x (List.mem_append_right _ hx)))

/-- What the row asks of a law that returned true and left what was there. -/
theorem post_true {f : Func} {s : ChangeSpec} {W W' : World} {args : Array Value} {ds gs : List (DataW H)} {before : List MemPlace} {tb : TypeId} (hl : laidOutB P = true)
    (hts : (f.params.toList.all fun t => P.readableRec t && decide (t < P.types.size)) = true) (hv : s.vars = []) (hr : f.resultTypes = #[tb]) (htb : P.underlying tb = some .bool)
    (hW : DataW.Whole enc P f.params.toList s.vars false W args.toList ds gs before) (hfn : s.fn H ds = { results := [.lit (.bool true)], args := ds }) (hb : Big.Ext W W') :
    s.post enc P f false true false false W args (.bool true) W' := by
  have hlt := hW.lt
  have hW' := hW
  obtain ⟨p, q, hA, hV, rfl, hfz, hnd⟩ := hW
  rw [hv] at hV
  obtain ⟨rfl, rfl⟩ := trodVars_none hV
  have hfn' : s.fn H (ds ++ []) = { results := [.lit (.bool true)], args := ds } := by rw [List.append_nil]; exact hfn
  refine ⟨ds, [], p ++ [], [], p, [], hW', ?_, ?_, ?_, hb.frame _, fun h => by cases h⟩
  · rw [hfn', hr]
    exact trodAll_mk1 (shut_bool htb _)
  · rw [hfn']
    exact trodAll_stays hl hb _ _ _ _ (fun t ht => by
      have := List.all_eq_true.1 hts t ht
      simpa using this) hA (fun x hx => hlt x (by simpa using hx))
  · rw [hfn', hv]
    rfl
end

/-- A law under its row's conditions, with the form of the world at its beginning. -/
theorem handed_and_shaped {H : Type} {enc : TypeId × Value → H} {a : Assume} {C : Checked} {os : Os} {f : FuncId} {fn : Func} {s : ChangeSpec} {conds : List PathCond} {apart fresh handsOn again : Bool} {X : World → Array Value → Prop}
    (hX : ∀ (w w' : World) (args : Array Value), w.heap = w'.heap → X w args → X w' args)
    (own : ownKnob C.prog.godebug = none) (started : os.Started) (noInit : C.prog.inits.idxOf? f = none) (hfn : C.prog.funcs[f]? = some fn)
    (witness : ∃ (w : World) (tape : Tape) (i : Input), w.os = os ∧ (w.forCall tape i).Shaped C.prog ∧ i.vars = [] ∧ Input.okWide C.prog (w.forCall tape i) .any w.heap.size f i ∧
      ((s.pre enc C.prog fn conds apart (w.forCall tape i).memory i.args ∧ X (w.forCall tape i).memory i.args) ∧ sizedMet enc C.prog fn (OpenSpec.ofChange s) apart (w.forCall tape i).memory i.args) ∧ a.holds C.prog (lone (Frame.enter C.prog f i.args .normal) [] (w.forCall tape i)))
    (contract : ∀ (W : World) (base : Nat) (args : Array Value) (ds gs : List (DataW H)) (before : List MemPlace),
      (∀ (j : Nat) t v, fn.params[j]? = some t → args[j]? = some v → Value.okWide C.prog W .any base t v) →
      DataW.Whole enc C.prog fn.params.toList s.vars apart W args.toList ds gs before →
      (DataW.weightsEach C.prog (fn.params.toList ++ s.plain.varTypes C.prog) (ds ++ gs)).all (· ≤ reachBytes) = true → X W args → W.ShapedOpen C.prog →
      Calls C.prog f args W fun e W' => ∃ v, e = .returned v ∧ s.post enc C.prog fn apart fresh handsOn again W args v W') :
    ReturnsInHanded a C os f .any (fun w args => (s.pre enc C.prog fn conds apart w args ∧ X w args) ∧ sizedMet enc C.prog fn (OpenSpec.ofChange s) apart w args) (s.post enc C.prog fn apart fresh handsOn again) := by
  refine returnsInHanded_of_calls own started noInit witness ?_
  intro w tape i _ hsh _ hok hpre hholds
  obtain ⟨_, _, _, fn', hfn', _, _, _, _, hval⟩ := hok
  have e : fn' = fn := Option.some.inj (hfn'.symm.trans hfn)
  subst e
  obtain ⟨⟨⟨ds, gs, before, hw, hc⟩, hx⟩, hz⟩ := hpre
  have hw' := DataW.Whole.of_heap (w' := w.forCall tape i) (by rfl) hw
  refine (contract (w.forCall tape i) w.heap.size i.args ds gs before hval hw' (hz.weights hw) (hX _ _ _ (by rfl) hx) hsh).mono fun e W' ⟨v, he, hp⟩ => ?_
  subst he
  exact ChangeSpec.post_blind hp

theorem laid_out : laidOutB Tryz.prog = true := by kernel_rfl
theorem own : ownKnob Tryz.prog.godebug = none := by kernel_rfl

section
variable {P : Program} {W : World}
/-- One of several variables that a row lists. -/
theorem laidVars_at : ∀ (i : Nat) (l : List (String × DataW Unit)) (ps : List MemPlace) (n : String) (d : DataW Unit), DataW.LaidVars P W l ps → l[i]? = some (n, d) →
    ∃ g t cs f p, P.globalNamed n = some g ∧ (P.globals[g]?).map (·.type) = some t ∧ W.var? P n = some cs ∧ DataW.trod (fun _ => ()) P W 0 (fun _ => true) false f t cs.toList = some (d, p)
  | i, [], ps, n, d, _, hn => by simp at hn
  | 0, x :: l, ps, n, d, h, hn => by
    simp at hn
    subst hn
    obtain ⟨g, t, cs, f, p, q, h1, h2, h3, h4, _, _⟩ := h
    exact ⟨g, t, cs, f, p, h1, h2, h3, h4⟩
  | i + 1, x :: l, ps, n, d, h, hn => by
    obtain ⟨g, t, cs, f, p, q, _, _, _, _, hs, _⟩ := h
    exact laidVars_at i l q n d hs (by simpa using hn)
theorem laid_at (i : Nat) {l : List (String × DataW Unit)} {n : String} {d : DataW Unit} (h : laidMetH P l W) (hp : (l.all fun x => x.2.handleName?.isNone) = true) (hn : l[i]? = some (n, d)) :
    ∃ g t cs f p, P.globalNamed n = some g ∧ (P.globals[g]?).map (·.type) = some t ∧ W.var? P n = some cs ∧ DataW.trod (fun _ => ()) P W 0 (fun _ => true) false f t cs.toList = some (d, p) := by
  rw [MakeChecks.laidMetH_plain _ _ _ hp] at h
  obtain ⟨ps, hv, _⟩ := h
  exact laidVars_at i l ps n d hv hn
end

section
variable {H : Type} {enc : TypeId × Value → H} {W : World} {fuel : Nat} {v : Value} {y : DataW H × List MemPlace}
theorem cellsOf_u32 : Tryz.prog.cellsOf 72 = 1 := by kernel_rfl
/-- A slice of 32-bit digits that came in. -/
theorem arr_of_trod (h : DataW.trod enc Tryz.prog W 0 (fun _ => true) true fuel 53 [v] = some y) : ∃ xs, Big.Arr W v xs := by
  rcases open_ints Tryz.underlying53 Tryz.underlying72 cellsOf_u32 h with ⟨hv, _⟩ | ⟨a, len, cap, zs, hv, _, hl, hm, hz, _, hc, hw⟩
  · injection hv with hv
    subst hv
    exact ⟨[], Big.Arr.none_ W⟩
  · injection hv with hv
    subst hv
    simp only [if_true] at hz
    refine ⟨(zs.take len).map Int.toNat, ?_⟩
    have hlen : ((zs.take len).map Int.toNat).length = len := by simp; omega
    have hok : Big.Ok ((zs.take len).map Int.toNat) := fun x hx => by
      obtain ⟨n, hn, rfl⟩ := List.mem_map.1 hx
      have := bounds_u32 (hw n (List.mem_of_mem_take hn))
      omega
    have key := Big.Arr.mk (w := W) (A := some a) (c := cap) hok (by rw [hlen]; exact hl) hm (fun hp => by
      rw [hlen] at hp ⊢
      obtain ⟨b, off, rfl, hcell⟩ := ints_at hc (by omega)
      have h0 := hcell 0 (by omega)
      refine ⟨b, off, rfl, World.block_lt_of_cell? W _ h0, fun j hj => ?_⟩
      rw [hcell j (by omega)]
      have hj2 : j < zs.length := by omega
      have hb := bounds_u32 (hw zs[j] (List.getElem_mem hj2))
      have e1 : zs.getD j 0 = zs[j] := by rw [List.getD_eq_getElem?_getD, List.getElem?_eq_getElem hj2]; rfl
      have e2 : ((zs.take len).map Int.toNat).getD j 0 = zs[j].toNat := by
        rw [List.getD_eq_getElem?_getD, List.getElem?_map, List.getElem?_take_of_lt hj, List.getElem?_eq_getElem hj2]; rfl
      rw [e1, e2]
      unfold Big.d32
      rw [Int.toNat_of_nonneg hb.1])
    rw [hlen] at key
    exact key
theorem bool_of_trod (h : DataW.trod enc Tryz.prog W 0 (fun _ => true) true fuel 4 [v] = some y) : ∃ b, v = .bool b := by
  obtain ⟨b, hb, _⟩ := DataW.trod_bool Tryz.underlying4 h
  injection hb with hb
  exact ⟨b, hb⟩
end
section
variable {H : Type} {enc : TypeId × Value → H} {W : World} {v : Value} {d : DataW H} {p : List MemPlace} {r : Reach} {b0 : Nat}
set_option maxRecDepth 100000 in
theorem open_u32s (hv : Value.okWide Tryz.prog W r b0 53 v) (h : DataW.Trod enc Tryz.prog W 0 (fun _ => true) true 53 v d p) : ∃ xs, Big.Arr W v xs := by
  obtain ⟨a, len, cap, rfl⟩ := okWide_slice Tryz.underlying53 hv
  obtain ⟨fuel, hf⟩ := h
  obtain ⟨xs, hxs⟩ := arr_of_trod (by simpa [Value.cells] using hf)
  exact ⟨xs, hxs⟩
end
theorem byte_of_wf {z : Int} (w : (Lit.int .u8 z).wf = true) : ∃ d : UInt8, z = (d.toNat : Int) := by
  have h := bounds_u8 w
  refine ⟨UInt8.ofNat z.toNat, ?_⟩
  have e : (UInt8.ofNat z.toNat).toNat = z.toNat % 2 ^ 8 := UInt8.toNat_ofNat'
  rw [e, Nat.mod_eq_of_lt (by omega)]
  omega
theorem u64_of_wf {z : Int} (w : (Lit.int .u64 z).wf = true) : ∃ n : Nat, n < 18446744073709551616 ∧ z = (n : Int) := by
  have h := bounds_u64 w
  exact ⟨z.toNat, by omega, by omega⟩
theorem str_of_bytes {s : ByteArray} (h : s.size ≤ maxLen) : ∃ l : List UInt8, l.length ≤ maxLen ∧ s = ⟨l.toArray⟩ := by
  refine ⟨s.data.toList, by simpa using h, ?_⟩
  apply ByteArray.ext
  simp
end Go.Proofs.YtelgknpdiaafaaaGreatDoor
/- A list of integers that came in. -/
namespace Go.Proofs.YtelgknpdiaafaaaGreatDoor
open Go.ChangeShapes Go.WideShapes Go.ChangeAt Go.RowKit
theorem cellsOf_i64 : Tryz.prog.cellsOf 3 = 1 := by kernel_rfl
section
variable {H : Type} {enc : TypeId × Value → H} {W : World} {v : Value} {d : DataW H} {p : List MemPlace} {r : Reach} {b0 : Nat}
theorem nums_of_trod {fuel : Nat} {y : DataW H × List MemPlace} (h : DataW.trod enc Tryz.prog W 0 (fun _ => true) true fuel 22 [v] = some y) : ∃ xs, Big.ArrI W v xs := by
  rcases open_ints Tryz.underlying22 Tryz.underlying3 cellsOf_i64 h with ⟨hv, _⟩ | ⟨a, len, cap, zs, hv, _, hl, hm, hz, _, hc, hw⟩
  · injection hv with hv
    subst hv
    exact ⟨[], ⟨(fun x hx => by cases hx), Big.RArr.none_ W⟩⟩
  · injection hv with hv
    subst hv
    simp only [if_true] at hz
    refine ⟨zs.take len, fun x hx => bounds_i64 (hw x (List.mem_of_mem_take hx)), some a, cap, by simp; omega, by simp; omega, hm, fun hp => ?_⟩
    simp only [List.length_map, List.length_take] at hp
    obtain ⟨b, off, rfl, hcell⟩ := ints_at hc (by omega)
    have h0 := hcell 0 (by omega)
    refine ⟨b, off, rfl, World.block_lt_of_cell? W _ h0, fun j u hj => ?_⟩
    rw [List.getElem?_map] at hj
    have hjl : j < len := by
      rcases Nat.lt_or_ge j len with h | h
      · exact h
      · rw [List.getElem?_eq_none (by simp; omega)] at hj; cases hj
    have hj2 : j < zs.length := by omega
    rw [List.getElem?_take_of_lt hjl, List.getElem?_eq_getElem hj2] at hj
    injection hj with hj
    subst hj
    rw [hcell j (by omega)]
    have e1 : zs.getD j 0 = zs[j] := by rw [List.getD_eq_getElem?_getD, List.getElem?_eq_getElem hj2]; rfl
    rw [e1]
    rfl
set_option maxRecDepth 100000 in
theorem open_nums (hv : Value.okWide Tryz.prog W r b0 22 v) (h : DataW.Trod enc Tryz.prog W 0 (fun _ => true) true 22 v d p) : ∃ xs, Big.ArrI W v xs := by
  obtain ⟨a, len, cap, rfl⟩ := okWide_slice Tryz.underlying22 hv
  obtain ⟨fuel, hf⟩ := h
  obtain ⟨xs, hxs⟩ := nums_of_trod (by simpa [Value.cells] using hf)
  exact ⟨xs, hxs⟩
end
end Go.Proofs.YtelgknpdiaafaaaGreatDoor
