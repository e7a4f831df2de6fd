import Derived.Test.YtgbfppdkpolkdaaGreatDoorM30
import Derived.Deep.RegionLaw
import Derived.Test.YtgbfppdkpolkdaaGreatDoorRows
import Derived.Test.YtgbfppdkpolkdaaGreatDoorM4
import Derived.ProofKit
import Derived.LaidMore
import Derived.OpenShut
import Derived.Stop.Joined
import Derived.Lib.LaidTab
import Derived.Carry
import Derived.Handed
import Derived.HandedShaped
import Derived.Deep.Strs
import Derived.ChangeMaps5
import Derived.Lib.SmallJoins
import Derived.Test.YtgbfppdkpolkdaaGreatDoorM7
import Derived.Test.YtgbfppdkpolkdaaGreatDoorM25
import Derived.Test.YtgbfppdkpolkdaaGreatDoorM29
/- ParserReads. -/
namespace Go.Proofs.YtgbfppdkpolkdaaGreatDoor
namespace Big
open Go.RowKit
theorem Arr8.part {w : World} {g n c : Nat} {l : List UInt8} (h : Arr8 w (.slice (some ⟨g, 0, none⟩) n c) l) (i k m : Nat) (hm : i + m ≤ l.length) (hk : i + m ≤ k) (hkc : k ≤ c) (hl : l.length ≤ 2147483648) (hcm : c ≤ maxLen) :
    Arr8 w (.slice (some ⟨g, i, none⟩) m (k - i)) ((l.drop i).take m) := by
  obtain ⟨A, c', he, h2, h3, h4⟩ := h.open
  injection he with he1 he2 he3
  subst he1
  have hlen : ((l.drop i).take m).length = m := by rw [List.length_take, List.length_drop]; omega
  refine ⟨_, k - i, by rw [List.length_map, hlen], by rw [List.length_map, hlen]; omega, by omega, fun hp => ?_⟩
  rw [List.length_map, hlen] at hp
  obtain ⟨b, o, ha, hlt, hc⟩ := h4 (by omega)
  injection ha with ha
  injection ha with ha1 ha2 _
  subst ha1
  subst ha2
  refine ⟨g, i, rfl, hlt, fun j u hj => ?_⟩
  have hjm : j < m := by
    rcases Nat.lt_or_ge j m with h | h
    · exact h
    · rw [List.getElem?_eq_none (by simp; omega)] at hj; cases hj
  rw [map_d8_get (by rw [hlen]; exact hjm)] at hj
  injection hj with hj
  subst hj
  have h5 := hc (i + j) (by omega)
  rw [Nat.zero_add] at h5
  rw [h5, List.getElem_take, List.getElem_drop]
theorem Own8.empty (B : Nat) (w : World) (A : Option Addr) : Own8 B w (.slice A 0 0) [] := ⟨A, 0, rfl, Nat.le_refl _, Nat.zero_le _, .inl ⟨rfl, rfl⟩⟩
theorem step_append8 {w : World} {v src : Value} {xs ys : List UInt8} {B : Nat} {ops : Array Oper} {o : Oper} {a : Act} {K : Act → World → Prop} {Q : Exit → Act → World → Prop} {E : Prop} (hw : Region.wanted o (yielded ops a.tmps) = true) (s x : Operand)
    (ho : o.op = .call { callee := .builtin .append, args := #[s, x], argTypes := #[27, 27] })
    (hs : a.eval s = v) (hown : Own8 B w v xs) (hx : a.eval x = src) (hsrc : Arr8 w src ys) (hn : xs.length + ys.length ≤ 2147483648) (hbase : B ≤ w.heap.size)
    (h : ∀ v' w', Own8 B w' v' (xs ++ ys) → w.grownBy w' (rowOf v) → Below B w w' → K (a.put o.dst v') w') : if Region.wanted o (yielded ops a.tmps) = true then Oper.wp Tryz.prog o a w K Q else E := by
  rw [if_pos hw]
  obtain ⟨i0, hi, hz0, hz1, hz2⟩ := info_parts info_u8
  have hb := bound32 hn
  refine wp_append_any s x 27 ho 5 i0 _ 1 Tryz.underlying27 hi hz0 hz1 hz2 rfl hs hown hx hsrc ones_d8 (by simpa using hb.1) (by simp only [List.length_map]; omega) hbase (fun v' w' h1 h2 h3 => h v' w' ?_ h2 h3)
  unfold Own8
  rw [List.map_append]
  exact h1
set_option maxHeartbeats 4000000 in
set_option maxRecDepth 100000 in
theorem parserReads_any (w : World) (s : List UInt8) (v : Value) (l : List Int) (at_ : Int) (d : UInt8) (dr : Bool) (h : ArrI w v l) (ha : -9223372036854775808 ≤ at_ ∧ at_ ≤ 9223372036854775807) (hm : MaxV w) :
    Calls Tryz.prog 3 #[str s, v, .int .i64 at_, .int .u8 (d.toNat : Int), .bool dr] w fun e w' => e = .returned (.bool true) ∧ Ext w w' := by
  have HAW := Lib.hid (awake19_any w hm)
  have HM := Lib.hid hm
  have HL := Lib.hid h
  have HLT := Lib.hid (fun W hx => light_any W v l (HL.out.ext hx))
  obtain ⟨A0, c0, rfl, _⟩ := h.open
  clear h hm
  rcases Nat.lt_or_ge 450 s.length with hs | hs
  · have h' : (450 : Int) < (s.length : Int) := by omega
    clear hs HL HLT
    go_enter Tryz.func3, Tryz.ntmps3
    go_wp2_with fail
    refine HAW.out.mono ?_
    rintro e w1 ⟨rfl, hx1⟩
    have HX1 := Lib.hid hx1
    clear hx1
    go_wp2_with fail
    go_ret
    exact ⟨rfl, HX1.out⟩
  have h' : ¬ (450 : Int) < (s.length : Int) := by omega
  by_cases hlt : 120 < l.length
  · have hd : decide (l.length ≤ 120) = false := decide_eq_false (by omega)
    rw [hd] at HLT
    clear HL hlt hd
    go_enter Tryz.func3, Tryz.ntmps3
    go_wp2_with fail
    refine HAW.out.mono ?_
    rintro e w1 ⟨rfl, hx1⟩
    have HX1 := Lib.hid hx1
    clear hx1
    go_wp2_with fail
    refine (HLT.out _ HX1.out).mono ?_
    rintro e w2 ⟨rfl, rfl⟩
    go_wp2_with fail
    go_ret
    exact ⟨rfl, HX1.out⟩
  have hd : decide (l.length ≤ 120) = true := decide_eq_true (by omega)
  rw [hd] at HLT
  have hll : l.length ≤ 120 := by omega
  obtain ⟨x12, hx12⟩ : ∃ x : UInt8, x = [43, 45, 42, 47, 94, 40, 41, 48, 120, 50, 46, 32].getD ((d.toNat : Int) % 12).toNat 0 := ⟨_, rfl⟩
  have hix : ∀ W : World, (Instr.index 9 (.string ⟨#[43, 45, 42, 47, 94, 40, 41, 48, 120, 50, 46, 32]⟩) (.int .u8 ((d.toNat : Int) % 12))).run Tryz.prog W = .ok (.int .u8 (x12.toNat : Int)) W := fun W => by
    have h1 := run_idx_str [43, 45, 42, 47, 94, 40, 41, 48, 120, 50, 46, 32] .u8 ((d.toNat : Int) % 12) W
    rw [if_pos (by simp; omega)] at h1
    rw [hx12]
    exact h1
  have HIX := Lib.hid hix
  clear hlt hd hx12 hix
  go_enter Tryz.func3, Tryz.ntmps3
  go_wp2_with fail
  refine HAW.out.mono ?_
  rintro e w1 ⟨rfl, hx1⟩
  have HX1 := Lib.hid hx1
  clear hx1
  go_wp2_with fail
  refine (HLT.out _ HX1.out).mono ?_
  rintro e w2 ⟨rfl, rfl⟩
  go_wp2_with fail
  refine (new_any _ _ l (HL.out.ext HX1.out) (by omega)).mono ?_
  rintro e w2 ⟨rfl, ht2, hx2, hs2⟩
  rw [← hs2] at ht2
  have HX2 := Lib.hid (HX1.out.trans hx2)
  have hg2 : w.heap.size ≤ w1.heap.size := HX1.out.size
  have hg3 : w.heap.size ≤ w2.heap.size := HX2.out.size
  have HEX := Lib.hid (expr_any 5 w1.heap.size w2 _ l 0 false ht2 (by decide) (by decide))
  generalize w1.heap.size = g at *
  clear ht2 hx2 hs2 HLT
  go_wp2_with fail
  refine HEX.out.mono ?_
  rintro e w3 ⟨x, v3, a3, rfl, hgd, hsz, hdp, hown, htp, hk⟩
  have HTX := Lib.hid (text_any w2.heap.size g w3 _ l a3 v3 x htp hk.size (by rw [List.nil_append] at hown; exact hown.read) hgd (by have : 2 ^ 5 ≤ 32 := (by decide); omega) (by omega))
  have HKB := Lib.hid hk
  obtain ⟨A3, c3, rfl⟩ := hown.shape
  have htl := wayT_len (nextV l a3 4) (nodeT fmtI x)
  have htl2 := nodeT_len fmtI fmtI_len x hgd
  have htt0 := wayT_pos (nextV l a3 4) (nodeT fmtI x) (nodeT_ne x hgd)
  have hsz2 : x.size ≤ 31 := by have : 2 ^ 5 ≤ 32 := (by decide); omega
  have htt : (wayT (nextV l a3 4) (nodeT fmtI x)).length ≤ 13000 := by omega
  generalize wayT (nextV l a3 4) (nodeT fmtI x) = tt at *
  clear hgd hsz hdp hown htp hk htl htl2 hsz2
  go_wp2_with fail
  refine HTX.out.mono ?_
  rintro e w4 ⟨rfl, _, hk4⟩
  have HX4 := Lib.hid ((HKB.out.trans hk4).to_ext HX2.out hg3 hg2)
  clear hk4 HTX HKB HEX hg2 hg3
  obtain ⟨cb, hcv, harr⟩ := run_bytesAt2 w4 tt (by omega)
  have hmz := Int.emod_nonneg at_ (show (tt.length : Int) ≠ 0 by omega)
  have hmt := Int.emod_lt_of_pos at_ (show (0 : Int) < (tt.length : Int) by omega)
  have HMD := Lib.hid (fun W => mod_any W at_ tt.length ha.1 ha.2 (by omega) (by omega))
  generalize at_ % (tt.length : Int) = ai at *
  obtain ⟨i, rfl⟩ := Int.eq_ofNat_of_zero_le hmz
  have hi2 : i < tt.length := by omega
  have hci := bytesAt_cell w4 tt i hi2
  have hfi := bytesAt_frozen w4 tt i hi2
  have hxb := bytesAt_ext w4 tt
  have hlt4 := bytesAt_lt w4 tt
  have hcb : tt.length ≤ cb ∧ cb ≤ maxLen := by
    obtain ⟨A, c, he, h1, h2, _⟩ := harr.open
    injection he with _ _ he3
    subst he3
    exact ⟨h1, h2⟩
  generalize bytesAt w4 tt = wb at *
  have HARR0 := Lib.hid harr
  have HXB := Lib.hid (HX4.out.trans hxb)
  have HGW := Lib.hid HX4.out.size
  have HCI : Hid (∀ W, Ext wb W → W.cell? ⟨w4.heap.size, i, none⟩ = some (.int .u8 (byteAt tt i : Int))) := Lib.hid (fun W hx => (hx.cell hlt4).trans hci)
  have HFI : Hid (∀ W, Ext wb W → W.frozen? ⟨w4.heap.size, i, none⟩ = false) := Lib.hid (fun W hx => (hx.frozen hlt4).trans hfi)
  have HST : Hid (∀ W, Ext wb W → (convert 27 9 (.slice (some ⟨w4.heap.size, 0, none⟩) tt.length cb)).run Tryz.prog W = .ok (str tt) W) := Lib.hid (fun W hx => run_string8 (HARR0.out.ext hx))
  have HS1 := Lib.hid (fun W hx => same19_any W s (HM.out.ext (w' := W) hx))
  have HS2 := Lib.hid (fun W hx => same19_any W tt (HM.out.ext (w' := W) hx))
  have HLB := Lib.hid hlt4
  have htp : ((tt.length : Int) == 0) = false := by rw [beq_eq_false_iff_ne]; omega
  have htp2 : (tt.length == 0) = false := by rw [beq_eq_false_iff_ne]; omega
  clear harr ha hmz hmt hci hfi hxb hlt4
  go_wp2_with fail
  generalize w4.heap.size = gb at *
  clear hcv
  refine (HS1.out _ HXB.out).mono ?_
  rintro e w5 ⟨rfl, hx5⟩
  have HX5 := Lib.hid (HXB.out.trans hx5)
  have HY5 := Lib.hid hx5
  have hst5 := HST.out w5 hx5
  clear hx5
  go_wp2_with fail
  refine (HS2.out w5 HX5.out).mono ?_
  rintro e w6 ⟨rfl, hx6⟩
  have HX6 := Lib.hid (HX5.out.trans hx6)
  have HY6 := Lib.hid (HY5.out.trans hx6)
  clear hx6 hst5
  go_wp2_with fail
  refine (HMD.out _).mono ?_
  rintro e w7 ⟨rfl, rfl⟩
  cases dr
  · have hci6 := HCI.out w6 HY6.out
    have hfi6 := HFI.out w6 HY6.out
    have hix := HIX.out
    have hset := Arr8.set (b := x12) (HARR0.out.ext HY6.out) hi2
    simp only [d8] at hset
    have hst7 := run_string8 hset
    have HX7 := Lib.hid (HX6.out.setCell (p := ⟨gb, i, none⟩) (by have := HGW.out; exact this) (.int .u8 (x12.toNat : Int)))
    have HS3 := Lib.hid (fun W hx => same19_any W (tt.set i x12) (HM.out.ext (w' := W) hx))
    clear hset
    go_upto_region 13 with fail
    generalize w6.setCell ⟨gb, i, none⟩ (.int .u8 (x12.toNat : Int)) = w7 at *
    clear hci6 hfi6 hix
    generalize tt.set i x12 = t2 at *
    go_wp2_with fail
    refine (HS3.out w7 HX7.out).mono ?_
    rintro e w8 ⟨rfl, hx8⟩
    have HX8 := Lib.hid (HX7.out.trans hx8)
    clear hx8
    go_wp2_with fail
    go_ret
    exact ⟨rfl, HX8.out⟩
  · have hp1 := Arr8.part ((HARR0.out.ext HY6.out).ext (Ext.refl w6).drew) 0 cb i (by omega) (by omega) (Nat.le_refl _) (by omega) hcb.2
    have hp1' := fun W hx => Arr8.part (HARR0.out.ext (w' := W) hx) 0 cb i (by omega) (by omega) (Nat.le_refl _) (by omega) hcb.2
    have hp2' := fun W hx => Arr8.part (HARR0.out.ext (w' := W) hx) (i + 1) cb (tt.length - (i + 1)) (by omega) (by omega) (Nat.le_refl _) (by omega) hcb.2
    rw [Nat.sub_zero, List.drop_zero] at hp1
    have hcv1 := run_string8 hp1
    have HP1 : Hid (∀ W, Ext wb W → Arr8 W (.slice (some ⟨gb, 0, none⟩) i cb) (tt.take i)) := Lib.hid (fun W hx => by have := hp1' W hx; rw [Nat.sub_zero, List.drop_zero] at this; exact this)
    have HP2 : Hid (∀ W, Ext wb W → Arr8 W (.slice (if cb = i + 1 then some ⟨gb, 0, none⟩ else some ⟨gb, i + 1, none⟩) (tt.length - (i + 1)) (cb - (i + 1))) ((tt.drop (i + 1)).take (tt.length - (i + 1)))) := Lib.hid (fun W hx => by
      by_cases hce : cb = i + 1
      · rw [if_pos hce]
        have h0 : tt.length - (i + 1) = 0 := by omega
        rw [h0, List.take_zero]
        exact ⟨_, _, rfl, by simp, by omega, fun hp => by simp at hp⟩
      · rw [if_neg hce]
        exact hp2' W hx)
    have hlk1 : (tt.take i).length = i := by rw [List.length_take]; omega
    have hlk2 : ((tt.drop (i + 1)).take (tt.length - (i + 1))).length = tt.length - (i + 1) := by rw [List.length_take, List.length_drop]; omega
    obtain ⟨t1, ht1⟩ : ∃ t1, t1 = tt.take i := ⟨_, rfl⟩
    obtain ⟨t2, ht2⟩ : ∃ t2, t2 = (tt.drop (i + 1)).take (tt.length - (i + 1)) := ⟨_, rfl⟩
    rw [← ht1] at HP1 hcv1 hlk1
    rw [← ht2] at HP2 hlk2
    obtain ⟨n, hn⟩ : ∃ n, n = tt.length := ⟨_, rfl⟩
    rw [← hn] at hi2 hlk2 HP2 htt hcb htt0 htp htp2 ⊢
    have HN1 : Hid (t1.length + t2.length ≤ 13000) := Lib.hid (by omega)
    have HS3 := Lib.hid (fun W hx => same19_any W t1 (HM.out.ext (w' := W) hx))
    have HS4 := Lib.hid (fun W hx => same19_any W (t1 ++ t2) (HM.out.ext (w' := W) hx))
    have HX6D := Lib.hid (HX6.out.trans (Ext.refl w6).drew)
    have HY6D := Lib.hid (HY6.out.trans (Ext.refl w6).drew)
    have hw1 : IntKind.i64.wrap ((i : Int) + 1) = (i : Int) + 1 := IntWalk.i64_in _ (by omega)
    have hq0 : (0 : Int) ≤ (i : Int) := by omega
    have hq1 : (i : Int) ≤ (n : Int) := by omega
    have hq2 : (i : Int) ≤ (cb : Int) := by omega
    have hq3 : (0 : Int) ≤ (i : Int) + 1 := by omega
    have hq4 : (i : Int) + 1 ≤ (n : Int) := by omega
    have hq5 : (n : Int) ≤ (cb : Int) := by omega
    have hq6 : ((i : Int) + 1).toNat = i + 1 := by omega
    clear hp1 hp1' hp2' ht1 ht2 hn hlk1 hlk2 hi2 htt hcb htt0 htp htp2 h' hs hll HCI HFI HST HIX HL HAW HS1 HS2 HMD HX4 HX1
    go_upto_region 11 with fail
    have HNA : Hid (([] : List UInt8).length + t1.length ≤ 2147483648) := Lib.hid (by have := HN1.out; simp only [List.length_nil]; omega)
    have HNB : Hid (t1.length + t2.length ≤ 2147483648) := Lib.hid (by have := HN1.out; omega)
    go_region_law (first
      | (refine step_append8 rfl (.tmp 56) (.tmp 59) rfl rfl (Own8.empty w7.heap.size _ _) rfl (HP1.out _ (HY7.out.alloc _)) HNA.out (by simp) ?_; intro v8 w8 ho8 hg8 hb8; have HY8 := Lib.hid ((HY7.out.alloc (.cells #[] 5)).more (Below.mono hb8 HY7.out.size)); have HX8 := Lib.hid ((HX7.out.alloc (.cells #[] 5)).more (Below.mono hb8 HX7.out.size)); have HO8 := Lib.hid ho8; have HB8 : Hid (w7.heap.size ≤ w8.heap.size) := Lib.hid (by have h1 := hb8.size; simp at h1; omega); clear ho8 hg8 hb8)
      | (refine step_append8 rfl (.tmp 60) (.tmp 64) rfl rfl HO8.out rfl (HP2.out _ HY8.out) (by rw [List.nil_append]; exact HNB.out) HB8.out ?_; intro v9 w9 ho9 hg9 hb9; rw [List.nil_append] at ho9; have HX9 := Lib.hid (HX8.out.more (Below.mono hb9 HX7.out.size)); have hcv2 := run_string8 ho9.arr; clear ho9 hg9 hb9)
      | (go_simp; go_at_call 13; refine (HS3.out _ HX6D.out).mono ?_; rintro e w7 ⟨rfl, hx7⟩; have HX7 := Lib.hid (HX6D.out.trans hx7); have HY7 := Lib.hid (HY6D.out.trans hx7); clear hx7 hcv1 HS3)
      | (go_simp; go_at_call 13; refine (HS4.out _ HX9.out).mono ?_; rintro e w10 ⟨rfl, hx10⟩; have HX10 := Lib.hid (HX9.out.trans hx10); clear hx10 hcv2 HS4))
    all_goals go_wp2_with fail
    all_goals
      go_ret
      exact ⟨rfl, HX10.out⟩
end Big
end Go.Proofs.YtgbfppdkpolkdaaGreatDoor
/- The frame round a law's walk: the arguments opened; behind the call they read as they did. -/
namespace Go.Proofs.YtgbfppdkpolkdaaGreatDoor
open Go.ChangeShapes Go.WideShapes Go.ChangeAt Go.RowKit

section
variable {H : Type} {enc : TypeId × Value → H} {P : Program}
theorem trodAll_stays (hl : laidOutB P = true) {W W' : World} (hb : Big.Ext W W') : ∀ (ts : List TypeId) (vs : List Value) (ds : List (DataW H)) (ps : List MemPlace),
    (∀ t ∈ ts, P.readableRec t = true ∧ t < P.types.size) → DataW.TrodAll enc P W 0 (fun _ => true) true ts vs ds ps → (∀ x ∈ ps, x.block < W.heap.size) →
    DataW.TrodAll enc P W' 0 (fun b => decide (b < W.heap.size)) true ts vs ds ps
  | [], vs, ds, ps, _, h, _ => by
    obtain ⟨rfl, rfl, rfl⟩ := trodAll_nil h
    exact trodAll_mk0
  | t :: ts, vs, ds, ps, ht, h, hlt => by
    obtain ⟨v, vs', d, ds', p, q, rfl, rfl, rfl, h1, h2⟩ := trodAll_cons h
    exact trodAll_cons_mk (Below.trod hl (ht t (by simp)).1 (ht t (by simp)).2 h1 hb (fun x hx => hlt x (List.mem_append_left _ hx)))
      (trodAll_stays hl hb ts vs' ds' q (fun t' h' => ht t' (by simp [h'])) h2 (fun x hx => hlt x (List.mem_append_right _ hx)))

/-- What the row asks of a law that returned true and left what was there. -/
theorem post_true {f : Func} {s : ChangeSpec} {W W' : World} {args : Array Value} {ds gs : List (DataW H)} {before : List MemPlace} {tb : TypeId} (hl : laidOutB P = true)
    (hts : (f.params.toList.all fun t => P.readableRec t && decide (t < P.types.size)) = true) (hv : s.vars = []) (hr : f.resultTypes = #[tb]) (htb : P.underlying tb = some .bool)
    (hW : DataW.Whole enc P f.params.toList s.vars false W args.toList ds gs before) (hfn : s.fn H ds = { results := [.lit (.bool true)], args := ds }) (hb : Big.Ext W W') :
    s.post enc P f false true false false W args (.bool true) W' := by
  have hlt := hW.lt
  have hW' := hW
  obtain ⟨p, q, hA, hV, rfl, hfz, hnd⟩ := hW
  rw [hv] at hV
  obtain ⟨rfl, rfl⟩ := trodVars_none hV
  have hfn' : s.fn H (ds ++ []) = { results := [.lit (.bool true)], args := ds } := by rw [List.append_nil]; exact hfn
  refine ⟨ds, [], p ++ [], [], p, [], hW', ?_, ?_, ?_, hb.frame _, fun h => by cases h⟩
  · rw [hfn', hr]
    exact trodAll_mk1 (shut_bool htb _)
  · rw [hfn']
    exact trodAll_stays hl hb _ _ _ _ (fun t ht => by
      have := List.all_eq_true.1 hts t ht
      simpa using this) hA (fun x hx => hlt x (by simpa using hx))
  · rw [hfn', hv]
    rfl
end

/-- A law under its row's conditions, with the form of the world at its beginning. -/
theorem handed_and_shaped {H : Type} {enc : TypeId × Value → H} {a : Assume} {C : Checked} {os : Os} {f : FuncId} {fn : Func} {s : ChangeSpec} {conds : List PathCond} {apart fresh handsOn again : Bool} {X : World → Array Value → Prop}
    (hX : ∀ (w w' : World) (args : Array Value), w.heap = w'.heap → X w args → X w' args)
    (own : ownKnob C.prog.godebug = none) (started : os.Started) (noInit : C.prog.inits.idxOf? f = none) (hfn : C.prog.funcs[f]? = some fn)
    (witness : ∃ (w : World) (tape : Tape) (i : Input), w.os = os ∧ (w.forCall tape i).Shaped C.prog ∧ i.vars = [] ∧ Input.okWide C.prog (w.forCall tape i) .any w.heap.size f i ∧
      ((s.pre enc C.prog fn conds apart (w.forCall tape i).memory i.args ∧ X (w.forCall tape i).memory i.args) ∧ sizedMet enc C.prog fn (OpenSpec.ofChange s) apart (w.forCall tape i).memory i.args) ∧ a.holds C.prog (lone (Frame.enter C.prog f i.args .normal) [] (w.forCall tape i)))
    (contract : ∀ (W : World) (base : Nat) (args : Array Value) (ds gs : List (DataW H)) (before : List MemPlace),
      (∀ (j : Nat) t v, fn.params[j]? = some t → args[j]? = some v → Value.okWide C.prog W .any base t v) →
      DataW.Whole enc C.prog fn.params.toList s.vars apart W args.toList ds gs before →
      (DataW.weightsEach C.prog (fn.params.toList ++ s.plain.varTypes C.prog) (ds ++ gs)).all (· ≤ reachBytes) = true → X W args → W.ShapedOpen C.prog →
      Calls C.prog f args W fun e W' => ∃ v, e = .returned v ∧ s.post enc C.prog fn apart fresh handsOn again W args v W') :
    ReturnsInHanded a C os f .any (fun w args => (s.pre enc C.prog fn conds apart w args ∧ X w args) ∧ sizedMet enc C.prog fn (OpenSpec.ofChange s) apart w args) (s.post enc C.prog fn apart fresh handsOn again) := by
  refine returnsInHanded_of_calls own started noInit witness ?_
  intro w tape i _ hsh _ hok hpre hholds
  obtain ⟨_, _, _, fn', hfn', _, _, _, _, hval⟩ := hok
  have e : fn' = fn := Option.some.inj (hfn'.symm.trans hfn)
  subst e
  obtain ⟨⟨⟨ds, gs, before, hw, hc⟩, hx⟩, hz⟩ := hpre
  have hw' := DataW.Whole.of_heap (w' := w.forCall tape i) (by rfl) hw
  refine (contract (w.forCall tape i) w.heap.size i.args ds gs before hval hw' (hz.weights hw) (hX _ _ _ (by rfl) hx) hsh).mono fun e W' ⟨v, he, hp⟩ => ?_
  subst he
  exact ChangeSpec.post_blind hp

theorem laid_out : laidOutB Tryz.prog = true := by kernel_rfl
theorem own : ownKnob Tryz.prog.godebug = none := by kernel_rfl

section
variable {P : Program} {W : World}
/-- One of several variables that a row lists. -/
theorem laidVars_at : ∀ (i : Nat) (l : List (String × DataW Unit)) (ps : List MemPlace) (n : String) (d : DataW Unit), DataW.LaidVars P W l ps → l[i]? = some (n, d) →
    ∃ g t cs f p, P.globalNamed n = some g ∧ (P.globals[g]?).map (·.type) = some t ∧ W.var? P n = some cs ∧ DataW.trod (fun _ => ()) P W 0 (fun _ => true) false f t cs.toList = some (d, p)
  | i, [], ps, n, d, _, hn => by simp at hn
  | 0, x :: l, ps, n, d, h, hn => by
    simp at hn
    subst hn
    obtain ⟨g, t, cs, f, p, q, h1, h2, h3, h4, _, _⟩ := h
    exact ⟨g, t, cs, f, p, h1, h2, h3, h4⟩
  | i + 1, x :: l, ps, n, d, h, hn => by
    obtain ⟨g, t, cs, f, p, q, _, _, _, _, hs, _⟩ := h
    exact laidVars_at i l q n d hs (by simpa using hn)
theorem laid_at (i : Nat) {l : List (String × DataW Unit)} {n : String} {d : DataW Unit} (h : laidMetH P l W) (hp : (l.all fun x => x.2.handleName?.isNone) = true) (hn : l[i]? = some (n, d)) :
    ∃ g t cs f p, P.globalNamed n = some g ∧ (P.globals[g]?).map (·.type) = some t ∧ W.var? P n = some cs ∧ DataW.trod (fun _ => ()) P W 0 (fun _ => true) false f t cs.toList = some (d, p) := by
  rw [MakeChecks.laidMetH_plain _ _ _ hp] at h
  obtain ⟨ps, hv, _⟩ := h
  exact laidVars_at i l ps n d hv hn
end

section
variable {H : Type} {enc : TypeId × Value → H} {W : World} {fuel : Nat} {v : Value} {y : DataW H × List MemPlace}
theorem cellsOf_u32 : Tryz.prog.cellsOf 115 = 1 := by kernel_rfl
/-- A slice of 32-bit digits that came in. -/
theorem arr_of_trod (h : DataW.trod enc Tryz.prog W 0 (fun _ => true) true fuel 90 [v] = some y) : ∃ xs, Big.Arr W v xs := by
  rcases open_ints Tryz.underlying90 Tryz.underlying115 cellsOf_u32 h with ⟨hv, _⟩ | ⟨a, len, cap, zs, hv, _, hl, hm, hz, _, hc, hw⟩
  · injection hv with hv
    subst hv
    exact ⟨[], Big.Arr.none_ W⟩
  · injection hv with hv
    subst hv
    simp only [if_true] at hz
    refine ⟨(zs.take len).map Int.toNat, ?_⟩
    have hlen : ((zs.take len).map Int.toNat).length = len := by simp; omega
    have hok : Big.Ok ((zs.take len).map Int.toNat) := fun x hx => by
      obtain ⟨n, hn, rfl⟩ := List.mem_map.1 hx
      have := bounds_u32 (hw n (List.mem_of_mem_take hn))
      omega
    have key := Big.Arr.mk (w := W) (A := some a) (c := cap) hok (by rw [hlen]; exact hl) hm (fun hp => by
      rw [hlen] at hp ⊢
      obtain ⟨b, off, rfl, hcell⟩ := ints_at hc (by omega)
      have h0 := hcell 0 (by omega)
      refine ⟨b, off, rfl, World.block_lt_of_cell? W _ h0, fun j hj => ?_⟩
      rw [hcell j (by omega)]
      have hj2 : j < zs.length := by omega
      have hb := bounds_u32 (hw zs[j] (List.getElem_mem hj2))
      have e1 : zs.getD j 0 = zs[j] := by rw [List.getD_eq_getElem?_getD, List.getElem?_eq_getElem hj2]; rfl
      have e2 : ((zs.take len).map Int.toNat).getD j 0 = zs[j].toNat := by
        rw [List.getD_eq_getElem?_getD, List.getElem?_map, List.getElem?_take_of_lt hj, List.getElem?_eq_getElem hj2]; rfl
      rw [e1, e2]
      unfold Big.d32
      rw [Int.toNat_of_nonneg hb.1])
    rw [hlen] at key
    exact key
theorem bool_of_trod (h : DataW.trod enc Tryz.prog W 0 (fun _ => true) true fuel 4 [v] = some y) : ∃ b, v = .bool b := by
  obtain ⟨b, hb, _⟩ := DataW.trod_bool Tryz.underlying4 h
  injection hb with hb
  exact ⟨b, hb⟩
end
section
variable {H : Type} {enc : TypeId × Value → H} {W : World} {v : Value} {d : DataW H} {p : List MemPlace} {r : Reach} {b0 : Nat}
set_option maxRecDepth 100000 in
theorem open_u32s (hv : Value.okWide Tryz.prog W r b0 90 v) (h : DataW.Trod enc Tryz.prog W 0 (fun _ => true) true 90 v d p) : ∃ xs, Big.Arr W v xs := by
  obtain ⟨a, len, cap, rfl⟩ := okWide_slice Tryz.underlying90 hv
  obtain ⟨fuel, hf⟩ := h
  obtain ⟨xs, hxs⟩ := arr_of_trod (by simpa [Value.cells] using hf)
  exact ⟨xs, hxs⟩
end
theorem byte_of_wf {z : Int} (w : (Lit.int .u8 z).wf = true) : ∃ d : UInt8, z = (d.toNat : Int) := by
  have h := bounds_u8 w
  refine ⟨UInt8.ofNat z.toNat, ?_⟩
  have e : (UInt8.ofNat z.toNat).toNat = z.toNat % 2 ^ 8 := UInt8.toNat_ofNat'
  rw [e, Nat.mod_eq_of_lt (by omega)]
  omega
theorem u64_of_wf {z : Int} (w : (Lit.int .u64 z).wf = true) : ∃ n : Nat, n < 18446744073709551616 ∧ z = (n : Int) := by
  have h := bounds_u64 w
  exact ⟨z.toNat, by omega, by omega⟩
theorem str_of_bytes {s : ByteArray} (h : s.size ≤ maxLen) : ∃ l : List UInt8, l.length ≤ maxLen ∧ s = ⟨l.toArray⟩ := by
  refine ⟨s.data.toList, by simpa using h, ?_⟩
  apply ByteArray.ext
  simp
end Go.Proofs.YtgbfppdkpolkdaaGreatDoor
/- A list of integers that came in. -/
namespace Go.Proofs.YtgbfppdkpolkdaaGreatDoor
open Go.ChangeShapes Go.WideShapes Go.ChangeAt Go.RowKit
theorem cellsOf_i64 : Tryz.prog.cellsOf 3 = 1 := by kernel_rfl
section
variable {H : Type} {enc : TypeId × Value → H} {W : World} {v : Value} {d : DataW H} {p : List MemPlace} {r : Reach} {b0 : Nat}
theorem nums_of_trod {fuel : Nat} {y : DataW H × List MemPlace} (h : DataW.trod enc Tryz.prog W 0 (fun _ => true) true fuel 22 [v] = some y) : ∃ xs, Big.ArrI W v xs := by
  rcases open_ints Tryz.underlying22 Tryz.underlying3 cellsOf_i64 h with ⟨hv, _⟩ | ⟨a, len, cap, zs, hv, _, hl, hm, hz, _, hc, hw⟩
  · injection hv with hv
    subst hv
    exact ⟨[], ⟨(fun x hx => by cases hx), Big.RArr.none_ W⟩⟩
  · injection hv with hv
    subst hv
    simp only [if_true] at hz
    refine ⟨zs.take len, fun x hx => bounds_i64 (hw x (List.mem_of_mem_take hx)), some a, cap, by simp; omega, by simp; omega, hm, fun hp => ?_⟩
    simp only [List.length_map, List.length_take] at hp
    obtain ⟨b, off, rfl, hcell⟩ := ints_at hc (by omega)
    have h0 := hcell 0 (by omega)
    refine ⟨b, off, rfl, World.block_lt_of_cell? W _ h0, fun j u hj => ?_⟩
    rw [List.getElem?_map] at hj
    have hjl : j < len := by
      rcases Nat.lt_or_ge j len with h | h
      · exact h
      · rw [List.getElem?_eq_none (by simp; omega)] at hj; cases hj
    have hj2 : j < zs.length := by omega
    rw [List.getElem?_take_of_lt hjl, List.getElem?_eq_getElem hj2] at hj
    injection hj with hj
    subst hj
    rw [hcell j (by omega)]
    have e1 : zs.getD j 0 = zs[j] := by rw [List.getD_eq_getElem?_getD, List.getElem?_eq_getElem hj2]; rfl
    rw [e1]
    rfl
set_option maxRecDepth 100000 in
theorem open_nums (hv : Value.okWide Tryz.prog W r b0 22 v) (h : DataW.Trod enc Tryz.prog W 0 (fun _ => true) true 22 v d p) : ∃ xs, Big.ArrI W v xs := by
  obtain ⟨a, len, cap, rfl⟩ := okWide_slice Tryz.underlying22 hv
  obtain ⟨fuel, hf⟩ := h
  obtain ⟨xs, hxs⟩ := nums_of_trod (by simpa [Value.cells] using hf)
  exact ⟨xs, hxs⟩
end
end Go.Proofs.YtgbfppdkpolkdaaGreatDoor
/- Printed trees are read again, with more spaces and in parentheses. Plain. -/
namespace Go.Proofs.YtgbfppdkpolkdaaGreatDoor
namespace Big
def parK : Nat → List UInt8 → List UInt8
  | 0, s => s
  | k + 1, s => 40 :: (parK k s ++ [41])
theorem parK_len (k : Nat) (s : List UInt8) : (parK k s).length = s.length + 2 * k := by
  induction k with
  | zero => rfl
  | succ k ih => rw [parK, List.length_cons, List.length_append, ih, List.length_singleton]; omega
def parKT : Nat → List (Nat × Tok) → List (Nat × Tok)
  | 0, q => q
  | k + 1, q => (0, tkS [40]) :: (parKT k q ++ [(0, tkS [41])])
def KK : Nat → List (Nat × List UInt8) → List (Nat × List UInt8)
  | 0, l => l
  | k + 1, l => (3, [40]) :: (KK k l ++ [(3, [41])])
theorem KK_len (k : Nat) (l : List (Nat × List UInt8)) : (KK k l).length = l.length + 2 * k := by
  induction k with
  | zero => rfl
  | succ k ih => rw [KK, List.length_cons, List.length_append, ih, List.length_singleton]; omega
theorem parKT_ok (k : Nat) {q : List (Nat × Tok)} (h : RendOk q) : RendOk (parKT k q) := by
  induction k with
  | zero => exact h
  | succ k ih => exact RendOk.glue (fine_sign 40 (by decide)) rfl (.inr (RendOk.glue (fine_sign 41 (by decide)) rfl (.inl rfl) _ (.inr ih))) [] (.inl rfl)
theorem parKT_rend (k : Nat) (q : List (Nat × Tok)) : rend 0 (parKT k q) = parK k (rend 0 q) := by
  induction k with
  | zero => rfl
  | succ k ih => rw [parKT, rend, rend_append, ih]; simp [tkS, rend, parK]
theorem parKT_map (k : Nat) (q : List (Nat × Tok)) : (parKT k q).map (fun p => ktT p.2) = KK k (q.map (fun p => ktT p.2)) := by
  induction k with
  | zero => rfl
  | succ k ih => rw [parKT, List.map_cons, List.map_append, ih]; rfl
theorem pSum_atom {ts : List Tok} {x : Ex} {f a b : Nat} (h : pAtom (pSum ts f) ts a = (some x, b)) (hm : isS ts a [45] = false) (h1 : isS ts b [94] = false) (h2 : isS ts b [42] = false) (h3 : isS ts b [47] = false) (h4 : isS ts b [43] = false) (h5 : isS ts b [45] = false) :
    pSum ts (f + 1) a = (some x, b) := by
  have hp := power_up (atom_up h h1) hm
  have hq : pProd (pSum ts f) ts a = (some x, b) := by rw [pProd, chain_one hp, chainGo_stop _ h2 h3]
  rw [pSum, chain_one hq, chainGo_stop _ h4 h5]
theorem read_KK {ts : List Tok} {e : Ex} (hg : e.Good) : ∀ k f a, e.size + k ≤ f → MT ts a (KK k (KE e)) → isS ts (a + (KK k (KE e)).length) [94] = false → isS ts (a + (KK k (KE e)).length) [42] = false → isS ts (a + (KK k (KE e)).length) [47] = false →
    isS ts (a + (KK k (KE e)).length) [43] = false → isS ts (a + (KK k (KE e)).length) [45] = false → pSum ts (f + 1) a = (some e, a + (KK k (KE e)).length) := by
  intro k
  induction k with
  | zero =>
    intro f a hf hM h1 h2 h3 h4 h5
    exact (read_all ts e hg f a (by omega) hM).whole h1 h2 h3 h4 h5
  | succ k ih =>
    intro f a hf hM h1 h2 h3 h4 h5
    obtain ⟨f', rfl⟩ : ∃ f', f = f' + 1 := ⟨f - 1, by omega⟩
    have h0 : MT ts a ((3, [40]) :: (KK k (KE e) ++ [(3, [41])])) := hM
    have hm : isS ts a [45] = false := h0.is [45]
    obtain ⟨t, ht, htk, htt⟩ := h0.tok
    have hs := (MT_append _ _ _).1 h0.2
    have hc := hs.2
    have hr := ih f' (a + 1) (by omega) hs.1 (hc.is [94]) (hc.is [42]) (hc.is [47]) (hc.is [43]) (hc.is [45])
    have hl : a + (KK (k + 1) (KE e)).length = a + 1 + (KK k (KE e)).length + 1 := by rw [KK_len, KK_len]; omega
    rw [hl] at h1 h2 h3 h4 h5 ⊢
    refine pSum_atom ?_ hm h1 h2 h3 h4 h5
    unfold pAtom
    rw [ht]
    simp only
    rw [if_pos htk, if_pos htt, hr]
    simp only
    rw [if_pos (show isS ts _ [41] = true from hc.yes)]
theorem KP_len (b : Bool) (l : List (Nat × List UInt8)) : l.length ≤ (KP b l).length := by
  unfold KP; split <;> simp <;> omega
theorem KE_size (e : Ex) : e.size ≤ (KE e).length := by
  induction e with
  | leaf k t => unfold KE Ex.size; (repeat' split) <;> simp
  | un k n x ih =>
    unfold KE Ex.size
    split
    · have := KP_len (decide (levelK x.kind < 3)) (KE x)
      rw [List.length_cons]; omega
    · split
      · have := KP_len (decide (levelK x.kind < 5)) (KE x)
        rw [List.length_append, List.length_cons]; omega
      · rw [List.length_cons, List.length_cons, List.length_append]; omega
  | bin k x y ihx ihy =>
    have h1 := KP_len (decide (levelK x.kind < levelK k)) (KE x)
    have h2 := KP_len (decide (levelK y.kind < levelK k + 1)) (KE y)
    unfold KE Ex.size
    rw [List.length_append, List.length_cons]; omega
theorem MT_self (l : List Tok) : ∀ (ts pre : List Tok), ts = pre ++ l → MT ts pre.length (l.map ktT) := by
  induction l with
  | nil => intro _ _ _; trivial
  | cons x l ih =>
    intro ts pre h
    refine ⟨by rw [h, List.getElem?_append_right (Nat.le_refl _), Nat.sub_self]; rfl, ?_⟩
    have h2 := ih ts (pre ++ [x]) (by rw [h, List.append_assoc]; rfl)
    rw [List.length_append] at h2
    exact h2
theorem isS_end (ts : List Tok) (c : List UInt8) : isS ts ts.length c = false := by
  cases hs : isS ts ts.length c with
  | false => rfl
  | true => have := isS_lt hs; omega
/-- The text of tokens that are a printed tree's, in any number of parentheses, is read as the tree. -/
theorem parseR_read {ps : List (Nat × Tok)} {e : Ex} {k : Nat} (hok : RendOk ps) (hm : ps.map (fun p => ktT p.2) = KK k (KE e)) (hg : e.Good) (hs : e.size ≤ 200) (hd : e.depth ≤ 40) (hl : (rend 0 ps).length ≤ 400) :
    parseR (rend 0 ps) = (some e, (rend 0 ps).length, 0) := by
  obtain ⟨back, h1, h2⟩ := scanT_rend hok hl
  have h3 : back.map ktT = KK k (KE e) := h2.trans hm
  have hM := MT_self back back [] rfl
  rw [h3] at hM
  have hlen : back.length = (KK k (KE e)).length := by rw [← h3, List.length_map]
  have hkl := KK_len k (KE e)
  have hke := KE_size e
  have he : (0 : Nat) + (KK k (KE e)).length = back.length := by omega
  have hr := read_KK (ts := back) hg k back.length 0 (by omega) hM (by rw [he]; exact isS_end _ _) (by rw [he]; exact isS_end _ _) (by rw [he]; exact isS_end _ _) (by rw [he]; exact isS_end _ _) (by rw [he]; exact isS_end _ _)
  rw [he] at hr
  have hb : e.big = false := hg.well.2
  unfold parseR
  rw [h1]
  simp only
  rw [hr]
  simp only [ne_eq, not_true_eq_false, if_false, Nat.lt_irrefl]
  rw [if_pos ⟨hb, hs, hd⟩]
theorem parseR_long {s : List UInt8} (h : 400 < s.length) : (parseR s).2.2 = 7 := by
  unfold parseR scanT
  rw [if_pos h]
  simp
/-- Each space is written three times. -/
def widen : List UInt8 → List UInt8
  | [] => []
  | c :: l => (if c = 32 then [32, 32, 32] else [c]) ++ widen l
theorem widen_append (a b : List UInt8) : widen (a ++ b) = widen a ++ widen b := by
  induction a with
  | nil => rfl
  | cons c a ih => rw [List.cons_append, widen, widen, ih, List.append_assoc]
theorem widen_len (a : List UInt8) : (widen a).length ≤ 3 * a.length := by
  induction a with
  | nil => simp [widen]
  | cons c a ih => rw [widen, List.length_append, List.length_cons]; split <;> simp <;> omega
theorem widen_none (a : List UInt8) (h : ∀ c ∈ a, c ≠ 32) : widen a = a := by
  induction a with
  | nil => rfl
  | cons c a ih => rw [widen, if_neg (h c (by simp)), ih (fun c hc => h c (by simp [hc]))]; rfl
theorem widen_rep (n : Nat) : widen (List.replicate n 32) = List.replicate (3 * n) 32 := by
  induction n with
  | zero => rfl
  | succ n ih => rw [List.replicate_succ, widen, if_pos rfl, ih, show 3 * (n + 1) = 3 * n + 1 + 1 + 1 by omega, List.replicate_succ, List.replicate_succ, List.replicate_succ]; rfl
def wideP (ps : List (Nat × Tok)) : List (Nat × Tok) := ps.map (fun p => (3 * p.1, p.2))
theorem run_free {p : Nat → Bool} (hp : p 32 = false) {l : List UInt8} (h : runLen p l = l.length) : ∀ c ∈ l, c ≠ 32 := by
  intro c hc he
  obtain ⟨i, hi, h2⟩ := List.getElem_of_mem hc
  obtain ⟨_, h3⟩ := runLen_in p l i (by omega)
  rw [h2, he] at h3
  have h4 : (32 : UInt8).toNat = 32 := rfl
  rw [h4, hp] at h3
  cases h3
theorem fine_free {t : Tok} (h : TokFine t) : ∀ c ∈ t.text, c ≠ 32 := by
  rcases h with ⟨_, _, h, _⟩ | ⟨_, h, _⟩ | ⟨_, c, h, hs⟩
  · exact run_free (by decide) h
  · exact run_free (by decide) h
  · intro d hd he
    rw [h, List.mem_singleton] at hd
    rw [hd] at he
    rw [he] at hs
    exact absurd hs (by decide)
theorem wideP_rend (ps : List (Nat × Tok)) (h : RendOk ps) : rend 0 (wideP ps) = widen (rend 0 ps) := by
  induction ps with
  | nil => rfl
  | cons p ps ih =>
    obtain ⟨g, t⟩ := p
    show rend 0 ((3 * g, t) :: wideP ps) = _
    rw [rend, rend, widen_append, widen_append, widen_rep, widen_none _ (fine_free h.head.1), ih h.head.2]
theorem wideP_ok (ps : List (Nat × Tok)) (h : RendOk ps) : RendOk (wideP ps) := by
  induction ps with
  | nil => trivial
  | cons p ps ih =>
    obtain ⟨g, t⟩ := p
    cases ps with
    | nil => exact h
    | cons q ps =>
      obtain ⟨g', u⟩ := q
      refine ⟨h.1, ?_, ih h.2.2⟩
      rcases h.2.1 with h | h
      · left; show 1 ≤ 3 * g'; omega
      · exact .inr h
theorem wideP_map (ps : List (Nat × Tok)) : (wideP ps).map (fun p => ktT p.2) = ps.map (fun p => ktT p.2) := by
  unfold wideP
  rw [List.map_map]
  rfl
theorem spaces_wide {e : Ex} (hg : e.Good) (hs : e.size ≤ 200) (hd : e.depth ≤ 40) (hl : (widen (nodeT fmtI e)).length ≤ 400) : parseR (widen (nodeT fmtI e)) = (some e, (widen (nodeT fmtI e)).length, 0) := by
  have h1 := pcs_rend e hg 0
  rw [List.replicate_zero, List.nil_append] at h1
  have h2 := wideP_rend _ (pcs_ok e hg 0)
  rw [h1] at h2
  rw [← h2] at hl ⊢
  exact parseR_read (k := 0) (wideP_ok _ (pcs_ok e hg 0)) (by rw [wideP_map, pcs_map]; rfl) hg hs hd hl
theorem spaces_par {e : Ex} (hg : e.Good) (hs : e.size ≤ 200) (hd : e.depth ≤ 40) (k : Nat) (hl : (parK k (nodeT fmtI e)).length ≤ 400) : parseR (parK k (nodeT fmtI e)) = (some e, (parK k (nodeT fmtI e)).length, 0) := by
  have h1 := pcs_rend e hg 0
  rw [List.replicate_zero, List.nil_append] at h1
  have h2 := parKT_rend k (pcs e 0)
  rw [h1] at h2
  rw [← h2] at hl ⊢
  exact parseR_read (k := k) (parKT_ok k (pcs_ok e hg 0)) (by rw [parKT_map, pcs_map]) hg hs hd hl
end Big
end Go.Proofs.YtgbfppdkpolkdaaGreatDoor
