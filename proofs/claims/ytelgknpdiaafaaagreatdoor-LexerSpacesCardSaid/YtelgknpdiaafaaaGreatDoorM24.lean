import Derived.Test.YtelgknpdiaafaaaGreatDoorM16
import Derived.Test.YtelgknpdiaafaaaGreatDoorM4
import Derived.Test.YtelgknpdiaafaaaGreatDoorM15
import Derived.Test.YtelgknpdiaafaaaGreatDoorM17
import Derived.Test.YtelgknpdiaafaaaGreatDoorM23
import Derived.Test.YtelgknpdiaafaaaGreatDoorM13
import Derived.Test.YtelgknpdiaafaaaGreatDoorM5
/- Bytes of a text in memory, one of them set. -/
namespace Go.Proofs.YtelgknpdiaafaaaGreatDoor
namespace Big
open Go.RowKit
theorem bytesAt_frozen (w : World) (l : List UInt8) (j : Nat) (h : j < l.length) : (bytesAt w l).frozen? ⟨w.heap.size, j, none⟩ = false := by
  have hs : l.length ≤ (Lib.bytesCells w 5 ⟨l.toArray⟩).size := by
    unfold Lib.bytesCells
    simp
  unfold bytesAt World.frozen?
  rw [Lib.bytesWorld_at_new]
  simp
  omega
theorem RArr.set {w : World} {g o n c i : Nat} {vs : List Value} {u : Value} (h : RArr w (.slice (some ⟨g, o, none⟩) n c) vs) (hi : i < vs.length) :
    RArr (w.setCell ⟨g, o + i, none⟩ u) (.slice (some ⟨g, o, none⟩) n c) (vs.set i u) := by
  obtain ⟨A, c', he, h2, h3, h4⟩ := h
  injection he with he1 he2 he3
  subst he1
  subst he3
  subst he2
  refine ⟨_, c, by rw [List.length_set], by rw [List.length_set]; exact h2, h3, fun hp => ?_⟩
  obtain ⟨b, o', ha, hlt, hc⟩ := h4 (by omega)
  injection ha with ha
  injection ha with ha1 ha2 _
  subst ha1
  subst ha2
  refine ⟨g, o, rfl, by simpa [World.setCell] using hlt, fun j v hj => ?_⟩
  rw [List.getElem?_set] at hj
  by_cases hij : i = j
  · subst hij
    rw [if_pos rfl, if_pos hi] at hj
    injection hj with hj
    subst hj
    exact World.cell?_setCell_same _ _ _ (hc i _ (List.getElem?_eq_getElem hi))
  · rw [if_neg hij] at hj
    rw [World.cell?_setCell_other _ _ _ _ (fun e => hij (by injection e with _ e _; omega))]
    exact hc j v hj
theorem bytesAt_arr (w : World) (l : List UInt8) (c : Nat) (hl : l.length ≤ 1073741824) (hc : l.length ≤ c) (hm : c ≤ maxLen) : Arr8 (bytesAt w l) (.slice (some ⟨w.heap.size, 0, none⟩) l.length c) l := by
  refine ⟨_, c, by rw [List.length_map], by rw [List.length_map]; exact hc, hm, fun _ => ⟨w.heap.size, 0, rfl, bytesAt_lt w l, fun j u hj => ?_⟩⟩
  have hjl : j < l.length := by
    rcases Nat.lt_or_ge j l.length with h | h
    · exact h
    · rw [List.getElem?_eq_none (by simpa using h)] at hj; cases hj
  rw [map_d8_get hjl] at hj
  injection hj with hj
  subst hj
  rw [Nat.zero_add, bytesAt_cell w l j hjl, byteAt_eq l j hjl]
  rfl
theorem run_bytesAt2 (w : World) (l : List UInt8) (hl : l.length ≤ 1073741824) : ∃ c, (convert 9 27 (str l)).run Tryz.prog w = .ok (.slice (some ⟨w.heap.size, 0, none⟩) l.length c) (bytesAt w l) ∧
    Arr8 (bytesAt w l) (.slice (some ⟨w.heap.size, 0, none⟩) l.length c) l := by
  have := Lib.run_convert_string_bytes (P := Tryz.prog) w 9 27 5 ⟨l.toArray⟩ Tryz.underlying9 Tryz.underlying27 Tryz.underlying5
  rw [size_str] at this
  exact ⟨_, this, bytesAt_arr w l _ hl (grownCap_ge w l.length 0 _) (grownCap_le_maxLen w l.length 0 _ (by unfold maxLen; omega))⟩
theorem Arr8.set {w : World} {g n c i : Nat} {l : List UInt8} {b : UInt8} (h : Arr8 w (.slice (some ⟨g, 0, none⟩) n c) l) (hi : i < l.length) :
    Arr8 (w.setCell ⟨g, i, none⟩ (d8 b)) (.slice (some ⟨g, 0, none⟩) n c) (l.set i b) := by
  have h1 := RArr.set (u := d8 b) h (i := i) (by simpa using hi)
  rw [Nat.zero_add] at h1
  unfold Arr8
  rw [List.map_set]
  exact h1
/-- A row that was there before these bytes was written: they stand. -/
theorem Arr8.kept {w w' wa : World} {g n c B : Nat} {l : List UInt8} {t : TypeId} {u : Value} {us : List Value} (h : Arr8 w (.slice (some ⟨g, 0, none⟩) n c) l) (k : ROwn t B wa u us) (hg : wa.heap.size ≤ g) (hgr : w.grownBy w' (rowOf u)) :
    Arr8 w' (.slice (some ⟨g, 0, none⟩) n c) l := by
  obtain ⟨A, c', he, h2, h3, h4⟩ := h
  injection he with he1 he2 he3
  subst he1
  subst he3
  subst he2
  refine ⟨_, c, rfl, h2, h3, fun hp => ?_⟩
  obtain ⟨b, o, hbo, hlt, hc⟩ := h4 hp
  injection hbo with hbo
  injection hbo with hb ho _
  subst hb
  subst ho
  have hne : some g ≠ rowOf u := by
    obtain ⟨A', c', rfl, k2, k3, k4⟩ := k
    rcases k4 with ⟨_, rfl⟩ | ⟨g', cur', rfl, _, kblk, _, _⟩
    · rcases A' with _ | a <;> simp [rowOf]
    · simp only [rowOf]
      split
      · simp
      · intro he
        injection he with he
        have := kblk.lt
        omega
  exact ⟨g, 0, rfl, Nat.lt_of_lt_of_le hlt hgr.size, fun j v hj => (World.cell?_of_block (w := w) (a := ⟨g, 0 + j, none⟩) (hgr.block g hlt hne)).trans (hc j v hj)⟩
end Big
end Go.Proofs.YtelgknpdiaafaaaGreatDoor
/- LexerScans. -/
namespace Go.Proofs.YtelgknpdiaafaaaGreatDoor
namespace Big
open Go.RowKit
theorem nodeT_ne (e : Ex) (h : e.Good) : nodeT fmtI e ≠ [] := by
  cases e with
  | leaf k t =>
    unfold nodeT
    rcases h with ⟨rfl, h, _⟩ | ⟨rfl, h⟩ | ⟨rfl | rfl, _⟩
    · intro he
      have he2 : t = [] := he
      rw [he2] at h
      revert h
      decide
    · intro he
      have he2 : t = [] := he
      rw [he2] at h
      revert h
      decide
    · simp
    · simp
  | un k n x =>
    unfold nodeT
    split
    · simp
    · split <;> simp
  | bin k x y =>
    unfold nodeT
    have := signT_len k
    intro he
    have h2 := congrArg List.length he
    simp at h2
    have := h2.2.1
    rw [this] at *
    simp_all
theorem wayT_pos (m : Int) (s : List UInt8) (h : s ≠ []) : 0 < (wayT m s).length := by
  unfold wayT
  split
  · simp
  · split
    · simp
    · exact List.length_pos_iff.2 h
set_option maxHeartbeats 2000000 in
set_option maxRecDepth 100000 in
theorem lexerScans_any (w : World) (s : List UInt8) (v : Value) (l : List Int) (at_ : Int) (d : UInt8) (h : ArrI w v l) (ha : -9223372036854775808 ≤ at_ ∧ at_ ≤ 9223372036854775807) (hm : MaxV w) :
    Calls Tryz.prog 3 #[str s, v, .int .i64 at_, .int .u8 (d.toNat : Int)] w fun e w' => e = .returned (.bool true) ∧ Ext w w' := by
  have HAW := Lib.hid (awake18_any w hm)
  have HM := Lib.hid hm
  have HL := Lib.hid h
  have HLT := Lib.hid (fun W hx => light_any W v l (HL.out.ext hx))
  obtain ⟨A0, c0, rfl, _⟩ := h.open
  clear h hm
  rcases Nat.lt_or_ge 500 s.length with hs | hs
  · have h' : (500 : Int) < (s.length : Int) := by omega
    clear hs HL HLT
    go_enter Tryz.func3, Tryz.ntmps3
    go_wp2_with fail
    refine HAW.out.mono ?_
    rintro e w1 ⟨rfl, hx1⟩
    have HX1 := Lib.hid hx1
    clear hx1
    go_wp2_with fail
    go_ret
    exact ⟨rfl, HX1.out⟩
  have h' : ¬ (500 : Int) < (s.length : Int) := by omega
  by_cases hlt : 120 < l.length
  · have hd : decide (l.length ≤ 120) = false := decide_eq_false (by omega)
    rw [hd] at HLT
    clear HL hlt hd
    go_enter Tryz.func3, Tryz.ntmps3
    go_wp2_with fail
    refine HAW.out.mono ?_
    rintro e w1 ⟨rfl, hx1⟩
    have HX1 := Lib.hid hx1
    clear hx1
    go_wp2_with fail
    refine (HLT.out _ HX1.out).mono ?_
    rintro e w2 ⟨rfl, rfl⟩
    go_wp2_with fail
    go_ret
    exact ⟨rfl, HX1.out⟩
  have hd : decide (l.length ≤ 120) = true := decide_eq_true (by omega)
  rw [hd] at HLT
  have hll : l.length ≤ 120 := by omega
  clear hlt hd
  go_enter Tryz.func3, Tryz.ntmps3
  go_wp2_with fail
  refine HAW.out.mono ?_
  rintro e w1 ⟨rfl, hx1⟩
  have HX1 := Lib.hid hx1
  clear hx1
  go_wp2_with fail
  refine (HLT.out _ HX1.out).mono ?_
  rintro e w2 ⟨rfl, rfl⟩
  go_wp2_with fail
  refine (new_any _ _ l (HL.out.ext HX1.out) (by omega)).mono ?_
  rintro e w2 ⟨rfl, ht2, hx2, hs2⟩
  rw [← hs2] at ht2
  have HX2 := Lib.hid (HX1.out.trans hx2)
  have hg2 : w.heap.size ≤ w1.heap.size := HX1.out.size
  have hg3 : w.heap.size ≤ w2.heap.size := HX2.out.size
  have HEX := Lib.hid (expr_any 5 w1.heap.size w2 _ l 0 false ht2 (by decide) (by decide))
  generalize w1.heap.size = g at *
  clear ht2 hx2 hs2 HLT
  go_wp2_with fail
  refine HEX.out.mono ?_
  rintro e w3 ⟨x, v3, a3, rfl, hgd, hsz, hdp, hown, htp, hk⟩
  have HTX := Lib.hid (text_any w2.heap.size g w3 _ l a3 v3 x htp hk.size (by rw [List.nil_append] at hown; exact hown.read) hgd (by have : 2 ^ 5 ≤ 32 := (by decide); omega) (by omega))
  have HKB := Lib.hid hk
  obtain ⟨A3, c3, rfl⟩ := hown.shape
  have htl := wayT_len (nextV l a3 4) (nodeT fmtI x)
  have htl2 := nodeT_len fmtI fmtI_len x hgd
  have htt0 := wayT_pos (nextV l a3 4) (nodeT fmtI x) (nodeT_ne x hgd)
  have hsz2 : x.size ≤ 31 := by have : 2 ^ 5 ≤ 32 := (by decide); omega
  have htt : (wayT (nextV l a3 4) (nodeT fmtI x)).length ≤ 13000 := by omega
  generalize wayT (nextV l a3 4) (nodeT fmtI x) = tt at *
  clear hgd hsz hdp hown htp hk htl htl2 hsz2
  go_wp2_with fail
  refine HTX.out.mono ?_
  rintro e w4 ⟨rfl, _, hk4⟩
  have HX4 := Lib.hid ((HKB.out.trans hk4).to_ext HX2.out hg3 hg2)
  clear hk4 HTX HKB HEX hg2 hg3
  obtain ⟨cb, hcv, harr⟩ := run_bytesAt2 w4 tt (by omega)
  have hmz := Int.emod_nonneg at_ (show (tt.length : Int) ≠ 0 by omega)
  have hmt := Int.emod_lt_of_pos at_ (show (0 : Int) < (tt.length : Int) by omega)
  have HMD := Lib.hid (fun W => mod_any W at_ tt.length ha.1 ha.2 (by omega) (by omega))
  generalize at_ % (tt.length : Int) = ai at *
  obtain ⟨i, rfl⟩ := Int.eq_ofNat_of_zero_le hmz
  have hi2 : i < tt.length := by omega
  have hci := bytesAt_cell w4 tt i hi2
  have hfi := bytesAt_frozen w4 tt i hi2
  have hxb := bytesAt_ext w4 tt
  have hlt4 := bytesAt_lt w4 tt
  generalize bytesAt w4 tt = wb at *
  have HARR0 := Lib.hid harr
  have hst : ∀ w', Ext wb w' → (convert 27 9 (.slice (some ⟨w4.heap.size, 0, none⟩) tt.length cb)).run Tryz.prog w' = .ok (str tt) w' := fun w' h => run_string8 (harr.ext h)
  have hst0 := hst wb (Ext.refl wb)
  have HXB := Lib.hid (HX4.out.trans hxb)
  have hgw := HX4.out.size
  clear harr hxb hst ha hmz hmt
  have htp : (0 : Int) < (tt.length : Int) := by omega
  go_wp2_with fail
  refine (HMD.out _).mono ?_
  rintro e w5 ⟨rfl, rfl⟩
  have hci2 : (wb.alloc (.cells #[str s, str tt] 9)).cell? ⟨w4.heap.size, i, none⟩ = some (.int .u8 (byteAt tt i : Int)) := (((Ext.refl wb).alloc (.cells #[str s, str tt] 9)).cell (by omega)).trans hci
  have hfi2 : (wb.alloc (.cells #[str s, str tt] 9)).frozen? ⟨w4.heap.size, i, none⟩ = false := (((Ext.refl wb).alloc (.cells #[str s, str tt] 9)).frozen (by omega)).trans hfi
  have hszc : (wb.setCell ⟨w4.heap.size, i, none⟩ (.int .u8 (d.toNat : Int))).heap.size = wb.heap.size := by simp [World.setCell]
  have hset := Arr8.set (b := d) HARR0.out hi2
  simp only [d8] at hset
  have HARR := Lib.hid (hset.ext ((Ext.refl (wb.setCell ⟨w4.heap.size, i, none⟩ (.int .u8 (d.toNat : Int)))).alloc (.cells #[str s, str tt] 9)))
  have HX6 := Lib.hid ((HXB.out.setCell (p := ⟨w4.heap.size, i, none⟩) hgw (.int .u8 (d.toNat : Int))).alloc (.cells #[str s, str tt] 9))
  have hob := OwnS.block (B := wb.heap.size) (ls := [s, tt]) (Blk.new (wb.setCell ⟨w4.heap.size, i, none⟩ (.int .u8 (d.toNat : Int))) 9 _) (by rw [hszc]; exact Nat.le_refl _) (by simp)
  rw [hszc] at hob
  have HSB : Hid (OwnS wb.heap.size ((wb.setCell ⟨w4.heap.size, i, none⟩ (.int .u8 (d.toNat : Int))).alloc (.cells #[str s, str tt] 9)) (.slice (some ⟨wb.heap.size, 0, none⟩) 2 2) [s, tt]) := Lib.hid hob
  have hgz : wb.heap.size ≤ ((wb.setCell ⟨w4.heap.size, i, none⟩ (.int .u8 (d.toNat : Int))).alloc (.cells #[str s, str tt] 9)).heap.size := by simp [World.setCell]
  have hst3 := run_string8 HARR.out
  have hsl3 : (tt.set i d).length ≤ 13000 := by rw [List.length_set]; exact htt
  clear hst0 hci hfi HARR0 hset hob
  go_upto_region 10 with fail
  generalize ((wb.setCell ⟨w4.heap.size, i, none⟩ (.int .u8 (d.toNat : Int))).alloc (.cells #[str s, str tt] 9)) = wc at *
  generalize tt.set i d = sb at *
  clear hci2 hfi2
  have HLM : Hid ([s, tt].length + [sb].length ≤ 2147483648) := Lib.hid (by simp)
  have hgy : wb.heap.size ≤ (wc.alloc (.cells #[str sb] 9)).heap.size := by simp; omega
  go_wp2_with (at_builtin; go_must (refine wpList_appendS rfl _ _ rfl rfl (HSB.out.ext ((Ext.refl _).alloc _)) rfl (ArrS.fresh1 _ sb) HLM.out hgy ?_; intro v' w' hown' hgr hb1; have HO9 := Lib.hid hown'; have HB9 := Lib.hid hb1; obtain ⟨n9, A9, c9, rfl⟩ := hown'.arr.shape; have hn9 := hown'.arr.len; clear hown' hgr hb1))
  have hn9b : n9 = 3 := hn9
  subst hn9b
  have HXW : Hid (Ext w w') := Lib.hid ((HX6.out.alloc _).more (Below.mono HB9.out HXB.out.size))
  have HRD := Lib.hid HO9.out.arr
  obtain ⟨sv, hsv⟩ : ∃ sv, sv = [s, tt] ++ [sb] := ⟨_, rfl⟩
  rw [← hsv] at HRD HO9
  have hn3 : sv.length = 3 := by rw [hsv]; rfl
  clear hsv hn9 HB9 HO9 HSB HX6 HXB HLM hst3 hcv hgw hgz hgy hlt4
  generalize w' = wz at *
  go_wp2_with fail
  go_loopw [58] (fun i wr => ∃ k : Nat, k ≤ 3 ∧ i = .int .i64 k ∧ ArrS wr (.slice A9 3 c9) sv ∧ Ext w wr) (fun i _ => 3 - (intOf i).toNat)
  case atStart => exact ⟨0, by omega, rfl, HRD.out, HXW.out⟩
  case round =>
    obtain ⟨k, hk, rfl, harr, hext⟩ := hrel
    have HA := Lib.hid harr
    have HX7 := Lib.hid hext
    by_cases hlt : k < 3
    · obtain ⟨A', c', hv, _, _, hcell⟩ := harr.open
      injection hv with hv hv1 hv2
      clear hv1 hv2
      subst hv
      obtain ⟨b, o, hbo, _, hcells⟩ := hcell (by rw [hn3]; omega)
      clear hcell
      subst hbo
      have hx := hcells k (by rw [hn3]; exact hlt)
      clear hcells harr hext
      generalize sv[k] = y at *
      have hki : (k : Int) < 3 := by omega
      have HO1 := Lib.hid (fun W hx => scan_any W y (HM.out.ext hx))
      have HO2 := Lib.hid (fun W hx => rscan_any W y (HM.out.ext hx))
      have HLEN := Lib.hid (scanT_len y)
      unfold ScanRes at HO1 HO2
      generalize (scanT y).2.1 = sk at *
      generalize (scanT y).2.2 = se at *
      generalize (scanT y).1 = ts at *
      have q1 : ((sk : Int) != (sk : Int)) = false := by simp
      have q2 : ((se : Int) != (se : Int)) = false := by simp
      go_wp2_with fail
      refine (HO1.out _ HX7.out).mono ?_
      rintro e w5 ⟨v5, rfl, hr5, hx5⟩
      obtain ⟨A5, c5, rfl⟩ := ownsRow_shape hr5
      have HR5 := Lib.hid (TokRow.of hr5)
      have HX5 := Lib.hid (HX7.out.trans hx5)
      have HA5 := Lib.hid (HA.out.ext hx5)
      clear hr5 hx5
      go_wp2_with fail
      refine (HO2.out _ HX5.out).mono ?_
      rintro e w6 ⟨v6, rfl, hr6, hx6⟩
      obtain ⟨A6, c6, rfl⟩ := ownsRow_shape hr6
      have HSM := Lib.hid (fun W hd => rsame_any W _ _ ts ((HR5.out.ext hx6).dr hd) ((TokRow.of hr6).dr hd) HLEN.out)
      have HX6 := Lib.hid (HX5.out.trans hx6)
      have HA6 := Lib.hid (HA5.out.ext hx6)
      clear hr6 hx6
      go_wp2_with fail
      refine (HSM.out _ (Dr.refl w6)).mono ?_
      rintro e w7 ⟨rfl, hd7⟩
      have HX8 := Lib.hid (HX6.out.trans hd7.ext)
      have HA8 := Lib.hid (HA6.out.ext hd7.ext)
      clear hd7
      go_wp2_with fail
      go_roundw
      case rel => exact ⟨k + 1, by omega, by go_num, HA8.out, HX8.out⟩
      case measure => simp [intOf]; omega
    · obtain rfl : k = 3 := by omega
      clear harr hext
      go_wp2_with fail
      go_ret
      exact ⟨rfl, HX7.out⟩
end Big
end Go.Proofs.YtelgknpdiaafaaaGreatDoor
/- Tokens: they cover their text; joined with spaces they come again. Plain. -/
namespace Go.Proofs.YtelgknpdiaafaaaGreatDoor
namespace Big
/-- The tokens ts stand in the text x from a on, in order, and only spaces stand between them and behind. -/
def Cov (x : List UInt8) : Nat → List Tok → Prop
  | a, [] => a ≤ x.length ∧ ∀ i, a ≤ i → i < x.length → x[i]? = some 32
  | a, t :: ts => a ≤ t.at_ ∧ t.text ≠ [] ∧ t.at_ + t.text.length ≤ x.length ∧ (x.drop t.at_).take t.text.length = t.text ∧ (∀ i, a ≤ i → i < t.at_ → x[i]? = some 32) ∧ Cov x (t.at_ + t.text.length) ts
theorem Cov.space {x : List UInt8} {a : Nat} {ts : List Tok} (hc : x[a]? = some 32) (h : Cov x (a + 1) ts) : Cov x a ts := by
  cases ts with
  | nil =>
    refine ⟨by have := h.1; omega, fun i h1 h2 => ?_⟩
    rcases Nat.eq_or_lt_of_le h1 with h3 | h3
    · rw [← h3]; exact hc
    · exact h.2 i h3 h2
  | cons t ts =>
    obtain ⟨h1, h2, h3, h4, h5, h6⟩ := h
    refine ⟨by omega, h2, h3, h4, fun i q1 q2 => ?_, h6⟩
    rcases Nat.eq_or_lt_of_le q1 with q3 | q3
    · rw [← q3]; exact hc
    · exact h5 i q3 q2
/-- A token that stands for itself wherever a space or nothing follows. -/
def TokOk (t : Tok) : Prop := ∀ rest : List UInt8, (rest = [] ∨ ∃ r, rest = 32 :: r) → tokLen (t.text ++ rest) = some (t.kind, t.text.length)
theorem run_halt (p : Nat → Bool) (hp : p 32 = false) (m : List UInt8) (rest : List UInt8) (hr : rest = [] ∨ ∃ r, rest = 32 :: r) : runLen p (m.take (runLen p m) ++ rest) = runLen p m := by
  induction m with
  | nil =>
    rcases hr with rfl | ⟨r, rfl⟩
    · rfl
    · show runLen p (32 :: r) = 0
      rw [runLen, if_neg (by rw [show (32 : UInt8).toNat = 32 from rfl, hp]; simp)]
  | cons c t ih =>
    rw [runLen]
    by_cases hc : p c.toNat = true
    · rw [if_pos hc, List.take_succ_cons, List.cons_append, runLen, if_pos hc, ih]
    · rw [if_neg hc]
      rcases hr with rfl | ⟨r, rfl⟩
      · rfl
      · show runLen p (32 :: r) = 0
        rw [runLen, if_neg (by rw [show (32 : UInt8).toNat = 32 from rfl, hp]; simp)]
theorem tokLen_stop {m : List UInt8} {k n : Nat} (h : tokLen m = some (k, n)) : TokOk ⟨k, 0, m.take n⟩ := by
  intro rest hr
  have hn := tokLen_pos h
  have hlen : (m.take n).length = n := by rw [List.length_take]; omega
  simp only
  rw [hlen]
  unfold tokLen at h
  split at h
  · cases h
  · rename_i c t
    obtain ⟨n', rfl⟩ : ∃ n', n = n' + 1 := ⟨n - 1, by omega⟩
    split at h
    · rename_i hc
      split at h
      · rename_i h24
        injection h with h
        injection h with h1 h2
        have h3 := run_halt wordN (by decide) (c :: t) rest hr
        rw [h2] at h3
        rw [List.take_succ_cons, List.cons_append] at h3 ⊢
        unfold tokLen
        simp only
        rw [if_pos hc, h3, if_pos (by omega), h1]
      · cases h
    · rename_i hc
      split at h
      · rename_i hd
        split at h
        · rename_i h7
          injection h with h
          injection h with h1 h2
          have h3 := run_halt numN (by decide) (c :: t) rest hr
          rw [h2] at h3 h7
          have h4 : ((c :: t).take (n' + 1) ++ rest).take (n' + 1) = (c :: t).take (n' + 1) := by
            rw [List.take_append_of_le_length (by omega), List.take_of_length_le (by omega)]
          rw [List.take_succ_cons, List.cons_append] at h3 h4 ⊢
          rw [List.take_succ_cons] at h7
          unfold tokLen
          simp only
          rw [if_neg hc, if_pos hd, h3, h4, if_pos h7, h1]
        · cases h
      · rename_i hd
        split at h
        · rename_i hs
          injection h with h
          injection h with h1 h2
          rw [List.take_succ_cons, List.cons_append]
          unfold tokLen
          simp only
          rw [if_neg hc, if_neg hd, if_pos hs, h1]
          congr 2
        · cases h
theorem TokOk.at {t : Tok} {a : Nat} (h : TokOk t) : TokOk ⟨t.kind, a, t.text⟩ := h
/-- What a scan that ends well has found. -/
theorem scanF_cov (f : Nat) (l : List UInt8) : ∀ (a : Nat) (ts ts' : List Tok) (n : Nat), a ≤ l.length → scanF f l a ts = (ts', n, 0) → n = l.length ∧ ∃ new, ts' = ts ++ new ∧ Cov l a new ∧ ∀ t ∈ new, TokOk t := by
  induction f with
  | zero => intro a ts ts' n _ h; unfold scanF at h; injection h with _ h; injection h with _ h; cases h
  | succ f ih =>
    intro a ts ts' n ha h
    unfold scanF at h
    split at h
    · rename_i h0
      injection h with h1 h2
      injection h2 with h2 _
      exact ⟨h2.symm, [], by rw [List.append_nil, h1], ⟨ha, fun i _ _ => by omega⟩, fun t ht => by cases ht⟩
    · rename_i h0
      split at h
      · rename_i hc
        obtain ⟨h1, new, h2, h3, h4⟩ := ih _ _ _ _ (by omega) h
        exact ⟨h1, new, h2, h3.space hc, h4⟩
      · split at h
        · injection h with _ h; injection h with _ h; cases h
        · rename_i hc _ k n' ht
          have hn := tokLen_pos ht
          rw [List.length_drop] at hn
          obtain ⟨h1, new, h2, h3, h4⟩ := ih _ _ _ _ (by omega) h
          have hlen : ((l.drop a).take n').length = n' := by rw [List.length_take, List.length_drop]; omega
          refine ⟨h1, ⟨k, a, (l.drop a).take n'⟩ :: new, by rw [h2, List.append_assoc]; rfl, ⟨Nat.le_refl _, fun e => ?_, ?_, ?_, fun i h5 h6 => ?_, ?_⟩, fun t ht' => ?_⟩
          · simp only at e
            rw [e, List.length_nil] at hlen
            omega
          · simp only; omega
          · simp only; rw [hlen]
          · simp only at h6; omega
          · simp only; rw [hlen]; exact h3
          · rcases List.mem_cons.1 ht' with rfl | h5
            · exact (tokLen_stop ht).at
            · exact h4 t h5
theorem scanT_cov {l : List UInt8} {ts : List Tok} {n : Nat} (h : scanT l = (ts, n, 0)) : n = l.length ∧ Cov l 0 ts ∧ ∀ t ∈ ts, TokOk t := by
  unfold scanT at h
  split at h
  · injection h with _ h; injection h with _ h; cases h
  · obtain ⟨h1, new, h2, h3, h4⟩ := scanF_cov _ l 0 [] ts n (Nat.zero_le _) h
    rw [List.nil_append] at h2
    rw [h2]
    exact ⟨h1, h3, h4⟩
/-- The code of a scan. -/
theorem scanT_code (l : List UInt8) : (scanT l).2.2 = 0 ∨ ((scanT l).2.2 = 6 ∧ (scanT l).1 = []) ∨ ((scanT l).2.2 = 7 ∧ (scanT l).1 = [] ∧ (scanT l).2.1 = 0) := by
  have key : ∀ (f a : Nat) (ts : List Tok), (scanF f l a ts).2.2 = 0 ∨ ((scanF f l a ts).2.2 = 6 ∧ (scanF f l a ts).1 = []) := by
    intro f
    induction f with
    | zero => intro a ts; exact .inr ⟨rfl, rfl⟩
    | succ f ih =>
      intro a ts
      unfold scanF
      split
      · exact .inl rfl
      · split
        · exact ih _ _
        · split
          · exact .inr ⟨rfl, rfl⟩
          · exact ih _ _
  unfold scanT
  split
  · exact .inr (.inr ⟨rfl, rfl, rfl⟩)
  · rcases key (l.length + 1) 0 [] with h | h
    · exact .inl h
    · exact .inr (.inl h)
/-- Tokens joined, each behind the gap g. -/
def joinG (g : List UInt8) : List Tok → List UInt8
  | [] => []
  | t :: ts => g ++ (t.text ++ joinG g ts)
theorem joinG_append (g : List UInt8) (a b : List Tok) : joinG g (a ++ b) = joinG g a ++ joinG g b := by
  induction a with
  | nil => rfl
  | cons t ts ih => rw [List.cons_append, joinG, joinG, ih]; simp only [List.append_assoc]
theorem scanGo_spaces (l : List UInt8) (ts : List Tok) (m : Nat) : ∀ (a : Nat) (r : List UInt8), l.drop a = List.replicate m 32 ++ r → scanGo l a ts = scanGo l (a + m) ts := by
  induction m with
  | zero => intro a r _; rfl
  | succ m ih =>
    intro a r h
    have hlt : a < l.length := by
      rcases Nat.lt_or_ge a l.length with h1 | h1
      · exact h1
      · rw [List.drop_eq_nil_of_le h1] at h; cases h
    have h0 : l[a]? = some 32 := by
      have h1 : (l.drop a)[0]? = some 32 := by rw [h]; rfl
      rw [List.getElem?_drop] at h1
      exact h1
    have h2 : l.drop (a + 1) = List.replicate m 32 ++ r := by
      rw [← List.drop_drop, h]; rfl
    rw [scanGo_space hlt h0, ih (a + 1) r h2]
    congr 1
    omega
theorem tokLen_space (r : List UInt8) : tokLen (32 :: r) = none := by
  unfold tokLen
  rfl
/-- Tokens joined with gaps are read again. -/
theorem scanGo_join (m : Nat) (l : List UInt8) : ∀ (new : List Tok) (a : Nat) (ts : List Tok), (∀ t ∈ new, TokOk t) → (∀ t ∈ new, t.text ≠ []) → l.drop a = joinG (List.replicate (m + 1) 32) new → a ≤ l.length →
    ∃ back, scanGo l a ts = (ts ++ back, l.length, 0) ∧ back.map (fun t => (t.kind, t.text)) = new.map (fun t => (t.kind, t.text)) := by
  intro new
  induction new with
  | nil =>
    intro a ts _ _ h ha
    have h1 : l.length ≤ a := by
      have h2 := congrArg List.length h
      rw [List.length_drop] at h2
      simp [joinG] at h2
      omega
    exact ⟨[], by rw [scanGo_end h1, List.append_nil], rfl⟩
  | cons t new ih =>
    intro a ts hok hne h ha
    have hl := congrArg List.length h
    rw [List.length_drop, joinG, List.length_append, List.length_replicate, List.length_append] at hl
    have ht := hok t (by simp)
    have htn := hne t (by simp)
    have htl : 0 < t.text.length := by cases hq : t.text with
      | nil => exact absurd hq htn
      | cons c r => simp
    have h1 := scanGo_spaces l ts (m + 1) a (t.text ++ joinG (List.replicate (m + 1) 32) new) h
    have h2 : l.drop (a + (m + 1)) = t.text ++ joinG (List.replicate (m + 1) 32) new := by
      rw [← List.drop_drop, h, joinG, List.drop_left' (by simp)]
    have h3 : tokLen (l.drop (a + (m + 1))) = some (t.kind, t.text.length) := by
      rw [h2]
      refine ht _ ?_
      cases new with
      | nil => exact .inl rfl
      | cons t' new' => exact .inr ⟨List.replicate m 32 ++ (t'.text ++ joinG (List.replicate (m + 1) 32) new'), by rw [joinG, List.replicate_succ]; rfl⟩
    have h4 : l[a + (m + 1)]? ≠ some 32 := by
      intro he
      have h5 : (l.drop (a + (m + 1)))[0]? = some 32 := by rw [List.getElem?_drop]; exact he
      cases hq : l.drop (a + (m + 1)) with
      | nil => rw [hq] at h5; cases h5
      | cons c r =>
        rw [hq] at h5 h3
        injection h5 with h5
        rw [h5, tokLen_space] at h3
        cases h3
    have h6 : (l.drop (a + (m + 1))).take t.text.length = t.text := by rw [h2, List.take_left' rfl]
    have h7 : l.drop (a + (m + 1) + t.text.length) = joinG (List.replicate (m + 1) 32) new := by rw [← List.drop_drop, h2, List.drop_left' rfl]
    obtain ⟨back, h8, h9⟩ := ih (a + (m + 1) + t.text.length) (ts ++ [⟨t.kind, a + (m + 1), t.text⟩]) (fun x hx => hok x (by simp [hx])) (fun x hx => hne x (by simp [hx])) h7 (by omega)
    refine ⟨⟨t.kind, a + (m + 1), t.text⟩ :: back, ?_, ?_⟩
    · rw [h1, scanGo_some (by omega) h4 h3, h6, h8, List.append_assoc]; rfl
    · rw [List.map_cons, List.map_cons, h9]
theorem Cov.ne {x : List UInt8} : ∀ {a : Nat} {ts : List Tok}, Cov x a ts → ∀ t ∈ ts, t.text ≠ []
  | _, [], _, t, h => by cases h
  | a, s :: ts, ⟨_, h2, _, _, _, h6⟩, t, h => by
    rcases List.mem_cons.1 h with rfl | h
    · exact h2
    · exact h6.ne t h
theorem scanT_join {l : List UInt8} {ts : List Tok} {n m : Nat} (h : scanT l = (ts, n, 0)) (hlen : (joinG (List.replicate (m + 1) 32) ts).length ≤ 400) :
    ∃ back, scanT (joinG (List.replicate (m + 1) 32) ts) = (back, (joinG (List.replicate (m + 1) 32) ts).length, 0) ∧ back.map (fun t => (t.kind, t.text)) = ts.map (fun t => (t.kind, t.text)) := by
  obtain ⟨_, h2, h3⟩ := scanT_cov h
  obtain ⟨back, h4, h5⟩ := scanGo_join m (joinG (List.replicate (m + 1) 32) ts) ts 0 [] h3 h2.ne rfl (Nat.zero_le _)
  refine ⟨back, ?_, h5⟩
  unfold scanT
  rw [if_neg (by omega)]
  exact h4
end Big
end Go.Proofs.YtelgknpdiaafaaaGreatDoor
/- LexerCovers. -/
namespace Go.Proofs.YtelgknpdiaafaaaGreatDoor
namespace Big
open Go.RowKit
theorem Cov.le {x : List UInt8} : ∀ {a : Nat} {ts : List Tok}, Cov x a ts → a ≤ x.length
  | _, [], h => h.1
  | _, t :: ts, ⟨h1, _, h3, _⟩ => by omega
theorem byteAt_space {x : List UInt8} {i : Nat} (h : x[i]? = some 32) : ((byteAt x i : Int) != 32) = false := by
  obtain ⟨hi, he⟩ := List.getElem?_eq_some_iff.1 h
  rw [byteAt_eq x i hi, he]
  rfl
set_option maxHeartbeats 4000000 in
set_option maxRecDepth 100000 in
theorem lexerCovers_any (w : World) (s : List UInt8) (v : Value) (l : List Int) (h : ArrI w v l) (hm : MaxV w) :
    Calls Tryz.prog 4 #[v, str s] w fun e w' => e = .returned (.bool true) ∧ Ext w w' := by
  have HAW := Lib.hid (awake18_any w hm)
  have HM := Lib.hid hm
  have HL := Lib.hid h
  have HLT := Lib.hid (fun W hx => light_any W v l (HL.out.ext hx))
  obtain ⟨A0, c0, rfl, _⟩ := h.open
  clear h hm
  rcases Nat.lt_or_ge 500 s.length with hs | hs
  · have h' : (500 : Int) < (s.length : Int) := by omega
    clear hs HL HLT
    go_enter Tryz.func4, Tryz.ntmps4
    go_wp2_with fail
    refine HAW.out.mono ?_
    rintro e w1 ⟨rfl, hx1⟩
    have HX1 := Lib.hid hx1
    clear hx1
    go_wp2_with fail
    go_ret
    exact ⟨rfl, HX1.out⟩
  have h' : ¬ (500 : Int) < (s.length : Int) := by omega
  by_cases hlt : 120 < l.length
  · have hd : decide (l.length ≤ 120) = false := decide_eq_false (by omega)
    rw [hd] at HLT
    clear HL hlt hd
    go_enter Tryz.func4, Tryz.ntmps4
    go_wp2_with fail
    refine HAW.out.mono ?_
    rintro e w1 ⟨rfl, hx1⟩
    have HX1 := Lib.hid hx1
    clear hx1
    go_wp2_with fail
    refine (HLT.out _ HX1.out).mono ?_
    rintro e w2 ⟨rfl, rfl⟩
    go_wp2_with fail
    go_ret
    exact ⟨rfl, HX1.out⟩
  have hd : decide (l.length ≤ 120) = true := decide_eq_true (by omega)
  rw [hd] at HLT
  have hll : l.length ≤ 120 := by omega
  clear hlt hd
  go_enter Tryz.func4, Tryz.ntmps4
  go_wp2_with fail
  refine HAW.out.mono ?_
  rintro e w1 ⟨rfl, hx1⟩
  have HX1 := Lib.hid hx1
  clear hx1
  go_wp2_with fail
  refine (HLT.out _ HX1.out).mono ?_
  rintro e w2 ⟨rfl, rfl⟩
  go_wp2_with fail
  refine (new_any _ _ l (HL.out.ext HX1.out) (by omega)).mono ?_
  rintro e w2 ⟨rfl, ht2, hx2, hs2⟩
  rw [← hs2] at ht2
  have HX2 := Lib.hid (HX1.out.trans hx2)
  have hg2 : w.heap.size ≤ w1.heap.size := HX1.out.size
  have hg3 : w.heap.size ≤ w2.heap.size := HX2.out.size
  have HEX := Lib.hid (expr_any 5 w1.heap.size w2 _ l 0 false ht2 (by decide) (by decide))
  generalize w1.heap.size = g at *
  clear ht2 hx2 hs2 HLT
  go_wp2_with fail
  refine HEX.out.mono ?_
  rintro e w3 ⟨x, v3, a3, rfl, hgd, hsz, hdp, hown, htp, hk⟩
  have HTX := Lib.hid (text_any w2.heap.size g w3 _ l a3 v3 x htp hk.size (by rw [List.nil_append] at hown; exact hown.read) hgd (by have : 2 ^ 5 ≤ 32 := (by decide); omega) (by omega))
  have HKB := Lib.hid hk
  obtain ⟨A3, c3, rfl⟩ := hown.shape
  have htl := wayT_len (nextV l a3 4) (nodeT fmtI x)
  have htl2 := nodeT_len fmtI fmtI_len x hgd
  have htt0 := wayT_pos (nextV l a3 4) (nodeT fmtI x) (nodeT_ne x hgd)
  have hsz2 : x.size ≤ 31 := by have : 2 ^ 5 ≤ 32 := (by decide); omega
  have htt : (wayT (nextV l a3 4) (nodeT fmtI x)).length ≤ 13000 := by omega
  generalize wayT (nextV l a3 4) (nodeT fmtI x) = tt at *
  clear hgd hsz hdp hown htp hk htl htl2 hsz2
  go_wp2_with fail
  refine HTX.out.mono ?_
  rintro e w4 ⟨rfl, _, hk4⟩
  have HX4 := Lib.hid ((HKB.out.trans hk4).to_ext HX2.out hg3 hg2)
  clear hk4 HTX HKB HEX hg2 hg3
  obtain ⟨sv, hsv⟩ : ∃ sv, sv = [s, tt] := ⟨_, rfl⟩
  have hn2 : sv.length = 2 := by rw [hsv]; rfl
  have HLS : Hid (∀ x ∈ sv, x.length ≤ 13000) := Lib.hid (fun x hx => by
    rw [hsv] at hx
    simp only [List.mem_cons, List.not_mem_nil, or_false] at hx
    rcases hx with rfl | rfl
    · omega
    · exact htt)
  have harr : ArrS (w4.alloc (.cells (sv.map str).toArray 9)) (.slice (some ⟨w4.heap.size, 0, none⟩) sv.length sv.length) sv :=
    (OwnS.block (B := w4.heap.size) (ls := sv) (Blk.new w4 9 _) (Nat.le_refl _) (by omega)).arr
  have hcs : (sv.map str).toArray = #[str s, str tt] := by rw [hsv]; rfl
  rw [hcs, hn2] at harr
  have HARR := Lib.hid harr
  have HX5 := Lib.hid (HX4.out.alloc (.cells #[str s, str tt] 9))
  clear harr hcs hsv htt htt0
  go_wp2_with fail
  generalize (w4.alloc (.cells #[str s, str tt] 9)) = wz at *
  generalize w4.heap.size = g9 at *
  go_loopw [33] (fun i wr => ∃ k : Nat, k ≤ 2 ∧ i = .int .i64 k ∧ ArrS wr (.slice (some ⟨g9, 0, none⟩) 2 2) sv ∧ Ext w wr) (fun i _ => 2 - (intOf i).toNat)
  case atStart => exact ⟨0, by omega, rfl, HARR.out, HX5.out⟩
  case round =>
    obtain ⟨k, hk, rfl, harr, hext⟩ := hrel
    have HA := Lib.hid harr
    have HX7 := Lib.hid hext
    by_cases hlt : k < 2
    · obtain ⟨A', c', hv, _, _, hcell⟩ := harr.open
      injection hv with hv hv1 hv2
      clear hv1 hv2
      obtain ⟨b, o, hbo, _, hcells⟩ := hcell (by rw [hn2]; omega)
      rw [hbo] at hv
      injection hv with hv
      injection hv with h1 h2 _
      have hx := hcells k (by rw [hn2]; exact hlt)
      rw [← h1, ← h2, Nat.zero_add] at hx
      have hyl : (sv[k]'(by rw [hn2]; exact hlt)).length ≤ 13000 := HLS.out _ (List.getElem_mem _)
      clear hcell hcells harr hext hbo h1 h2
      generalize sv[k] = y at *
      have hki : (k : Int) < 2 := by omega
      have HO1 := Lib.hid (fun W hx => scan_any W y (HM.out.ext hx))
      have HCV : Hid ((scanT y).2.2 = 0 → (scanT y).2.1 = y.length ∧ Cov y 0 (scanT y).1) := Lib.hid (fun he => by
        have h1 := scanT_cov (l := y) (ts := (scanT y).1) (n := (scanT y).2.1) (by rw [← he])
        exact ⟨h1.1, h1.2.1⟩)
      have hll2 := scanT_len y
      unfold ScanRes at HO1
      generalize (scanT y).2.1 = sk at *
      generalize (scanT y).2.2 = se at *
      generalize (scanT y).1 = ts at *
      by_cases he0 : se = 0
      · subst he0
        obtain ⟨hsk, hcv⟩ := HCV.out rfl
        subst hsk
        have HCV0 := Lib.hid hcv
        clear HCV hcv
        go_wp2_with fail
        refine (HO1.out _ HX7.out).mono ?_
        rintro e w5 ⟨v5, rfl, hr5, hx5⟩
        obtain ⟨A5, c5, rfl⟩ := ownsRow_shape hr5
        have HR5 := Lib.hid (TokRow.of hr5)
        have HX6 := Lib.hid (HX7.out.trans hx5)
        have HA6 := Lib.hid (HA.out.ext hx5)
        clear hr5 hx5 hx
        generalize wr = wa at *
        obtain ⟨m, hm⟩ : ∃ m, m = ts.length := ⟨_, rfl⟩
        have HMT := Lib.hid hm
        rw [← hm] at HR5 hll2 ⊢
        clear hm
        go_wp2_with fail
        go_loopw [11, 47] (fun s11 s47 wr => ∃ (a j : Nat), j ≤ m ∧ s11 = .int .i64 (a : Int) ∧ s47 = .int .i64 (j : Int) ∧ Hid (Cov y a (ts.drop j)) ∧ Ext w5 wr) (fun _ s47 _ => m - (intOf s47).toNat)
        case atStart => exact ⟨0, 0, Nat.zero_le _, rfl, rfl, by rw [List.drop_zero]; exact HCV0, Ext.refl w5⟩
        case round =>
          obtain ⟨a, j, hj, rfl, rfl, HC, hx8⟩ := hrel
          have HX8 := Lib.hid hx8
          clear HCV0
          have hay := HC.out.le
          by_cases hjt : j < m
          · have hjt2 : j < ts.length := by rw [← HMT.out]; exact hjt
            obtain ⟨A6, c6, hv6, hc6⟩ := (HR5.out.ext hx8).cells
            injection hv6 with hv6 _ _
            obtain ⟨g6, hg6, hc6⟩ := hc6 (by omega)
            rw [hg6] at hv6
            obtain ⟨k0, k1, k2⟩ := hc6 j hjt2
            have hcj := HC.out
            rw [List.drop_eq_getElem_cons hjt2] at hcj
            obtain ⟨c1, c2, c3, c4, c5', c6'⟩ := hcj
            clear hc6 hx8 HC
            subst hv6
            generalize ts[j].text = tx at *
            generalize ts[j].at_ = ta at *
            generalize ts[j].kind = tk at *
            obtain ⟨en, hen⟩ : ∃ en, en = ta + tx.length := ⟨_, rfl⟩
            rw [← hen] at c3 c6'
            have HEN := Lib.hid hen
            have d1 : decide ((ta : Int) < (a : Int)) = false := decide_eq_false (by omega)
            have d2 : decide ((ta : Int) > (y.length : Int)) = false := decide_eq_false (by omega)
            have d3 : (tx == []) = false := by rw [beq_eq_false_iff_ne]; exact c2
            have hw1 : IntKind.i64.wrap ((ta : Int) + (tx.length : Int)) = (en : Int) := by rw [IntWalk.i64_in _ (by omega)]; omega
            have d4 : decide ((en : Int) > (y.length : Int)) = false := decide_eq_false (by omega)
            have hsl : (y.take en).drop ta = tx := by rw [List.drop_take, hen, Nat.add_sub_cancel_left]; exact c4
            have e1 : ta ≤ en := by omega
            have p1 : decide (ta < a) = false := decide_eq_false (by omega)
            have p2 : decide (y.length < ta) = false := decide_eq_false (by omega)
            have p4 : decide (y.length < en) = false := decide_eq_false (by omega)
            have p5 : tx ≠ [] := c2
            have HC6 := Lib.hid c6'
            have HC5 := Lib.hid c5'
            have HB8 := Lib.hid (Blk.new wr 40 #[.int .i64 (tk : Int), .int .i64 (ta : Int), str tx])
            obtain ⟨q0, q1, q2, _⟩ := HB8.out.three
            have HX9 := Lib.hid (HX8.out.alloc (.cells #[.int .i64 (tk : Int), .int .i64 (ta : Int), str tx] 40))
            have hwl : IntKind.i64.wrap ((ta : Int) + (tx.length : Int)) = (en : Int) := hw1
            clear c4 c2 c5' c6' hen hwl
            go_wp2_with fail
            go_quiet (fail)
            go_wp2_with fail
            obtain ⟨wq, hwq⟩ : ∃ wq, wq = (wr.alloc (.cells #[.int .i64 (tk : Int), .int .i64 (ta : Int), str tx] 40)).drewN nq := ⟨_, rfl⟩
            rw [← hwq]
            have HXQ : Hid (Ext w5 wq) := Lib.hid (by rw [hwq]; exact HX9.out.drewN nq)
            have r1 : wq.cell? ⟨wr.heap.size, 1, none⟩ = some (.int .i64 (ta : Int)) := by rw [hwq]; exact q1
            have r2 : wq.cell? ⟨wr.heap.size, 2, none⟩ = some (str tx) := by rw [hwq]; exact q2
            clear hwq q0 q1 q2 k0 k1 k2 d1 d2 d3 d4 hsl p1 p2 p4 p5
            go_loop [11] (fun s11 => ∃ p : Nat, a ≤ p ∧ p ≤ ta ∧ s11 = .int .i64 (p : Int)) (fun s11 => ta - (intOf s11).toNat)
            case atStart => exact ⟨a, Nat.le_refl _, c1, rfl⟩
            case round =>
              obtain ⟨p, hp1, hp2, rfl⟩ := hrel
              by_cases hpt : p < ta
              · have hpi : (p : Int) < (ta : Int) := by omega
                have hb := byteAt_space (HC5.out p hp1 hpt)
                have hpy : p < y.length := by omega
                go_wp2_with fail
                go_round
                case rel => exact ⟨p + 1, by omega, by omega, by go_num⟩
                case measure => simp [intOf]; omega
              · obtain rfl : p = ta := by omega
                have hpi : ¬ (p : Int) < (p : Int) := by omega
                go_wp2_with fail
                go_roundw
                case rel => exact ⟨en, j + 1, by omega, rfl, by go_num, HC6, HXQ.out⟩
                case measure => simp [intOf]; omega
          · obtain rfl : j = m := by omega
            have hcj := HC.out
            rw [List.drop_eq_nil_of_le (by rw [← HMT.out]; exact Nat.le_refl _)] at hcj
            have HC5 := Lib.hid hcj.2
            clear hx8 HC hcj
            go_wp2_with fail
            go_loop [11] (fun s11 => ∃ p : Nat, a ≤ p ∧ p ≤ y.length ∧ s11 = .int .i64 (p : Int)) (fun s11 => y.length - (intOf s11).toNat)
            case atStart => exact ⟨a, Nat.le_refl _, hay, rfl⟩
            case round =>
              obtain ⟨p, hp1, hp2, rfl⟩ := hrel
              by_cases hpt : p < y.length
              · have hpi : (p : Int) < (y.length : Int) := by omega
                have hb := byteAt_space (HC5.out p hp1 hpt)
                go_wp2_with fail
                go_round
                case rel => exact ⟨p + 1, by omega, by omega, by go_num⟩
                case measure => simp [intOf]; omega
              · have hpi : ¬ (p : Int) < (y.length : Int) := by omega
                have hqq : ((y.length : Int) != (y.length : Int)) = false := by simp
                go_wp2_with fail
                go_roundw
                case rel => exact ⟨k + 1, by omega, by go_num, HA6.out.ext HX8.out, HX6.out.trans HX8.out⟩
                case measure => simp [intOf]; omega
      · have hse : ((se : Int) != 0) = true := by rw [bne_iff_ne]; omega
        clear HCV he0
        generalize hsz : (se : Int) = sz at *
        go_wp2_with fail
        refine (HO1.out _ HX7.out).mono ?_
        rintro e w5 ⟨v5, rfl, hr5, hx5⟩
        obtain ⟨A5, c5, rfl⟩ := ownsRow_shape hr5
        have HX6 := Lib.hid (HX7.out.trans hx5)
        have HA6 := Lib.hid (HA.out.ext hx5)
        clear hr5 hx5 hx
        try rw [hsz]
        go_wp2_with fail
        go_roundw
        case rel => exact ⟨k + 1, by omega, by go_num, HA6.out, HX6.out⟩
        case measure => simp [intOf]; omega
    · obtain rfl : k = 2 := by omega
      clear harr hext
      go_wp2_with fail
      go_ret
      exact ⟨rfl, HX7.out⟩
end Big
end Go.Proofs.YtelgknpdiaafaaaGreatDoor
