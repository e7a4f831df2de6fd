import Derived.Test.YtplmldkfgeiklaaGreatDoorM19
import Derived.Test.YtplmldkfgeiklaaGreatDoorM20
import Derived.Test.YtplmldkfgeiklaaGreatDoorRows
import Derived.Test.YtplmldkfgeiklaaGreatDoorM4
import Derived.ProofKit
import Derived.LaidMore
import Derived.OpenShut
import Derived.Stop.Joined
import Derived.Lib.LaidTab
import Derived.Carry
import Derived.Handed
import Derived.HandedShaped
import Derived.Deep.Strs
import Derived.ChangeMaps5
import Derived.Lib.SmallJoins
import Derived.Test.YtplmldkfgeiklaaGreatDoorM16
/- RationalParses. -/
namespace Go.Proofs.YtplmldkfgeiklaaGreatDoor
namespace Big
open Go.RowKit
theorem strip_ex {p : Nat} (hp : 2 ≤ p) : ∀ a, 0 < a → ∃ b n, Strip p a b n := by
  intro a
  induction a using Nat.strongRecOn with
  | _ a ih =>
    intro ha
    by_cases h : p ∣ a
    · obtain ⟨c, rfl⟩ := h
      have hc : 0 < c := by
        rcases Nat.eq_zero_or_pos c with h0 | h0
        · subst h0; simp at ha
        · exact h0
      obtain ⟨b, n, h1, h2⟩ := ih c (by
        have : 2 * c ≤ p * c := Nat.mul_le_mul_right _ hp
        omega) hc
      exact ⟨b, n + 1, by rw [Nat.pow_succ, ← Nat.mul_assoc, ← h1, Nat.mul_comm], h2⟩
    · exact ⟨a, 0, by simp, h⟩
theorem num7_nonneg (l : List UInt8) : 0 ≤ num7 l := by
  have hd : decide (((numOf (whole l ++ part l) : Nat) : Int) < 0) = false := by simp
  unfold num7 lowN
  rw [hd]
  exact Int.natCast_nonneg _
theorem den7_pos (l : List UInt8) : 0 < den7 l := lowD_pos (Nat.pow_pos (by decide))
/-- The decimal of what a text is read as is the text. -/
theorem dec_of_text {l : List UInt8} {w : World} {e : Ending} {w' : World} (hc : code7 l = 0) (h : DecPost (num7 l) (den7 l) w e w') : e = .returned (.tuple #[str l, .bool true]) ∧ Ext w w' := by
  obtain ⟨hd1, hd2⟩ := dotT_of_text hc
  obtain ⟨m, t, h2⟩ := strip_ex (p := 2) (by decide) (den7 l) (den7_pos l)
  obtain ⟨r, f, h5⟩ := strip_ex (p := 5) (by decide) m (h2.pos (den7_pos l))
  obtain ⟨hr, hmax, hsc⟩ := text_strip hd2 (rfl : den7 l = _) h2 h5
  subst hr
  have hq : den7 l = 5 ^ f * 2 ^ t := by rw [h2.1, h5.1, Nat.one_mul]
  obtain ⟨hx, h | h⟩ := h
  · obtain ⟨t', f', _, hq', rfl⟩ := h
    obtain ⟨rfl, rfl⟩ := strip_uniq52 (hq.symm.trans hq')
    refine ⟨?_, hx⟩
    rw [hmax]
    have : scN (num7 l).natAbs t f = numOf (whole l ++ part l) := hsc
    rw [this, hd1]
  · exfalso
    rcases h.1 with h | h
    · have := num7_nonneg l; omega
    · exact h ⟨t, f, hq⟩
theorem code_len {l : List UInt8} (h : code7 l = 0) : l.length ≤ 400 := by
  unfold code7 at h
  split at h
  · cases h
  · omega
theorem parse_sizes {l : List UInt8} (h : code7 l = 0) : (limbs (num7 l).natAbs).length ≤ 1000 ∧ (limbs (den7 l)).length ≤ 1000 := by
  have hl := code_len h
  have hall : (whole l ++ part l).all isDig = true := by
    unfold code7 good7 at h
    split at h
    · cases h
    split at h
    · rename_i hg
      rw [Bool.and_eq_true] at hg
      exact hg.2
    · cases h
  have hN := numOf_lt _ hall
  have hwp : (whole l ++ part l).length ≤ 400 := by
    rw [List.length_append]
    rcases dot_split l with ⟨_, h1⟩ | ⟨_, h1, h2⟩
    · have := congrArg List.length h1
      simp at this
      omega
    · rw [h2]
      have := whole_le l
      simp
      omega
  have hpl : (part l).length ≤ 400 := by rw [List.length_append] at hwp; omega
  constructor
  · unfold num7
    rw [lowN_natAbs, Int.natAbs_natCast]
    exact Nat.le_trans (limbs_mono (Nat.div_le_self _ _)) (limbs_dec hN (by omega))
  · unfold den7 lowD
    refine Nat.le_trans (limbs_mono (Nat.div_le_self _ _)) (limbs_dec (k := (part l).length + 1) ?_ (by omega))
    exact Nat.pow_lt_pow_right (by decide) (by omega)
set_option maxHeartbeats 4000000 in
set_option maxRecDepth 100000 in
theorem rationalParses_any (w : World) (s : List UInt8) (n : Int) (hn1 : -9223372036854775808 ≤ n) (hn2 : n ≤ 9223372036854775807) (hm : MaxV w) (ht : Tab32 w) :
    Calls Tryz.prog 4 #[str s, .int .i64 n] w fun e w' => e = .returned (.bool true) ∧ Ext w w' := by
  have HAW := Lib.hid (awake07_any w hm ht)
  have HM := Lib.hid hm
  have HTB := Lib.hid ht
  rcases Nat.lt_or_ge 300 s.length with hs | hs
  · have h' : (300 : Int) < (s.length : Int) := by omega
    clear hs hm ht
    go_enter Tryz.func4, Tryz.ntmps4
    go_wp2_with fail
    refine HAW.out.mono ?_
    rintro e w1 ⟨rfl, hx1⟩
    have HX1 := Lib.hid hx1
    clear hx1
    go_wp2_with fail
    go_ret
    exact ⟨rfl, HX1.out⟩
  have h' : ¬ (300 : Int) < (s.length : Int) := by omega
  have HM5 := Lib.hid (fun W => mod_any W n 5 hn1 hn2 (by decide) (by decide))
  have hm1 := Int.emod_nonneg n (show (5 : Int) ≠ 0 by decide)
  have hm2 := Int.emod_lt_of_pos n (show (0 : Int) < 5 by decide)
  generalize n % 5 = m at *
  obtain ⟨m, rfl⟩ := Int.eq_ofNat_of_zero_le hm1
  obtain ⟨sz, hsz⟩ : ∃ sz : Nat, sz = 398 + m := ⟨_, rfl⟩
  have hmk := run_make8 sz (by omega)
  rw [show ((sz : Nat) : Int) = 398 + (m : Int) by omega] at hmk
  have hsz4 : sz ≤ 402 := by omega
  have hsz3 : 398 ≤ sz := by omega
  have HSL := Lib.hid hs
  clear hm ht hm1 hsz hs
  go_enter Tryz.func4, Tryz.ntmps4
  go_wp2_with fail
  refine HAW.out.mono ?_
  rintro e w1 ⟨rfl, hx1⟩
  have HX1 := Lib.hid hx1
  clear hx1
  go_wp2_with fail
  refine (HM5.out _).mono ?_
  rintro e w2 ⟨rfl, rfl⟩
  go_wp2_with fail
  clear hmk
  have hg := HX1.out.size
  have HB0 := Lib.hid (Blk.new w1 5 (cells8 (List.replicate sz 0)))
  have HX2 := Lib.hid (HX1.out.alloc (.cells (cells8 (List.replicate sz 0)) 5))
  generalize w1.heap.size = gb at *
  go_loopw [26] (fun s26 wr => ∃ (k : Nat) (bs : List UInt8), k ≤ sz ∧ s26 = .int .i64 (k : Int) ∧ bs.length = sz ∧ Blk wr gb 5 (cells8 bs) ∧ Ext w wr) (fun s26 _ => sz - (intOf s26).toNat)
  case atStart => exact ⟨0, List.replicate sz 0, Nat.zero_le _, rfl, by simp, HB0.out, HX2.out⟩
  case round =>
    obtain ⟨k, bs, hk, rfl, hbl, hb, hx⟩ := hrel
    have HBL := Lib.hid hbl
    by_cases hlt : k < sz
    · have hst := hb.cell k
      have hfz := hb.frozen k
      rw [get_cells8 _ _ (by omega)] at hst
      generalize bs[k] = b0 at hst
      have hset := hb.set_ k (d8 55)
      rw [set_cells8] at hset
      have HSET := Lib.hid hset
      have HXS := Lib.hid (hx.setCell (p := ⟨gb, k, none⟩) hg (d8 55))
      have hd55 : d8 55 = .int .u8 55 := rfl
      rw [hd55] at HSET HXS
      clear hb hx hset hbl hd55
      simp only [d8] at hst
      go_wp2_with fail
      go_roundw
      case rel => exact ⟨k + 1, _, by omega, by go_num, by simp [HBL.out], HSET.out, HXS.out⟩
      case measure => simp [intOf]; omega
    · obtain rfl : k = sz := by omega
      have harr := Arr8.block hb (by omega)
      rw [hbl] at harr
      have hst2 := run_string8 harr
      have HX := Lib.hid hx
      obtain ⟨ls, hls⟩ : ∃ ls, ls = [s, bs] := ⟨_, rfl⟩
      have hln : ls.length = 2 := by rw [hls]; rfl
      have HLL : Hid (∀ x ∈ ls, x.length ≤ 402) := Lib.hid (by
        rw [hls]
        intro x hx
        simp only [List.mem_cons, List.not_mem_nil, or_false] at hx
        rcases hx with rfl | rfl
        · have := HSL.out; omega
        · omega)
      have hob := OwnS.block (B := wr.heap.size) (ls := [s, bs]) (Blk.new wr 9 _) (Nat.le_refl _) (by simp)
      have HRD : Hid (ArrS (wr.alloc (.cells #[str s, str bs] 9)) (.slice (some ⟨wr.heap.size, 0, none⟩) 2 2) ls) := Lib.hid (by rw [hls]; exact hob.arr)
      have HXW := Lib.hid (HX.out.alloc (.cells #[str s, str bs] 9))
      clear hls hob harr hb hx hbl
      go_wp2_with fail
      clear hst2
      generalize (wr.alloc (.cells #[str s, str bs] 9)) = wy at *
      generalize wr.heap.size = gz at *
      go_loopw [38] (fun s38 wq => ∃ i : Nat, i ≤ 2 ∧ s38 = .int .i64 (i : Int) ∧ Ext wy wq) (fun s38 _ => 2 - (intOf s38).toNat)
      case atStart => exact ⟨0, by omega, rfl, Ext.refl _⟩
      case round =>
        obtain ⟨i, hi, rfl, hext⟩ := hrel
        have HX7 := Lib.hid (HXW.out.trans hext)
        have HEX := Lib.hid hext
        by_cases hlt : i < 2
        · obtain ⟨A', c', hv, _, _, hcell⟩ := (HRD.out.ext hext).open
          injection hv with hv hv1 hv2
          clear hv1 hv2
          obtain ⟨b, o, hbo, _, hcells⟩ := hcell (by rw [hln]; omega)
          clear hcell
          rw [hbo] at hv
          injection hv with hv
          injection hv with hv1 hv2 hv3
          subst hv1
          subst hv2
          clear hv3
          have hx := hcells i (by rw [hln]; exact hlt)
          rw [Nat.zero_add] at hx
          clear hcells hbo hext
          have HYL := Lib.hid (HLL.out _ (List.getElem_mem (show i < ls.length by rw [hln]; exact hlt)))
          generalize ls[i] = y at *
          have hki : (i : Int) < 2 := by omega
          have K1 := Lib.hid (fun W hx => parse7_any W y (HM.out.ext (w' := W) hx))
          have K2 := Lib.hid (fun W => rparse7_any W y)
          unfold ParseRes7 at K1 K2
          have KD : Hid (code7 y = 0 → ∀ W v, ArrRat W v (num7 y) (den7 y) → Ext w W → Calls Tryz.prog 19 #[v] W fun e w' => e = .returned (.tuple #[str y, .bool true]) ∧ Ext W w') := Lib.hid (fun hc W v a hx => by
            obtain ⟨s1, s2⟩ := parse_sizes hc
            exact (decR_any W v _ _ a s1 s2 (den7_pos y) (HTB.out.ext hx)).mono fun _ _ h => dec_of_text hc h)
          have hzl : (limbs (if code7 y = 0 then num7 y else 0).natAbs).length ≤ 100000000 ∧ (limbs (if code7 y = 0 then den7 y else 0)).length ≤ 100000000 := by
            by_cases hc : code7 y = 0
            · rw [if_pos hc, if_pos hc]
              obtain ⟨s1, s2⟩ := parse_sizes hc
              exact ⟨by omega, by omega⟩
            · rw [if_neg hc, if_neg hc]
              exact ⟨by decide +kernel, by decide +kernel⟩
          have HSM := Lib.hid (fun W v a u b => rsameR_any W v (if code7 y = 0 then num7 y else 0) (if code7 y = 0 then den7 y else 0) a hzl.1 hzl.2 u (if code7 y = 0 then num7 y else 0) (if code7 y = 0 then den7 y else 0) b hzl.1 hzl.2)
          have hdt : decide ((if code7 y = 0 then num7 y else 0) = (if code7 y = 0 then num7 y else 0) ∧ (if code7 y = 0 then den7 y else 0) = (if code7 y = 0 then den7 y else 0)) = true := decide_eq_true ⟨rfl, rfl⟩
          rw [hdt] at HSM
          have HPN : Hid (code7 y = 0 → (if code7 y = 0 then num7 y else 0) = num7 y ∧ (if code7 y = 0 then den7 y else 0) = den7 y) := Lib.hid (fun hc => ⟨if_pos hc, if_pos hc⟩)
          generalize (if code7 y = 0 then num7 y else 0) = P at *
          generalize (if code7 y = 0 then den7 y else 0) = Q at *
          generalize code7 y = cd at *
          obtain ⟨yb, hyb⟩ : ∃ yb, str y = .string yb := ⟨_, rfl⟩
          rw [hyb] at K1 K2 KD hx
          have hcd : cd = 0 ∨ cd ≠ 0 := by omega
          have q2 : ((cd : Int) != (cd : Int)) = false := by simp
          clear hyb hdt hzl
          go_wp2_with fail
          refine (K1.out _ HX7.out).mono ?_
          rintro e w5 ⟨r5, rfl, hi5, hx5⟩
          have HE5 := Lib.hid (HEX.out.trans hx5)
          have HX5 := Lib.hid (HX7.out.trans hx5)
          have R5 := Lib.hid hi5
          obtain ⟨f5, g5, G5, j5, y5, Y5, z5, rfl⟩ := hi5.shape
          have HB5 := Lib.hid (Blk.new w5 26 #[Value.bool f5, Value.slice G5 g5 j5, Value.slice Y5 y5 z5])
          have hx6 := (Ext.refl w5).alloc (.cells #[Value.bool f5, Value.slice G5 g5 j5, Value.slice Y5 y5 z5] 26)
          have HE6 := Lib.hid (HE5.out.trans hx6)
          have HX6 := Lib.hid (HX5.out.trans hx6)
          have R6 := Lib.hid (R5.out.ext hx6)
          clear hx hx5 hi5 hx6
          go_wp2_with fail
          generalize w5.alloc (.cells #[Value.bool f5, Value.slice G5 g5 j5, Value.slice Y5 y5 z5] 26) = w6 at *
          generalize w5.heap.size = a5 at *
          refine (K2.out _).mono ?_
          rintro e w7 ⟨r7, rfl, hi7, hx7⟩
          have HE7 := Lib.hid (HE6.out.trans hx7)
          have HX8 := Lib.hid (HX6.out.trans hx7)
          have R57 := Lib.hid (R6.out.ext hx7)
          have HB7 := Lib.hid (HB5.out.ext hx7)
          have R7 := Lib.hid hi7
          obtain ⟨f7, g7, G7, j7, y7, Y7, z7, rfl⟩ := hi7.shape
          have HC7 := Lib.hid (Blk.new w7 26 #[Value.bool f7, Value.slice G7 g7 j7, Value.slice Y7 y7 z7])
          have hx8 := (Ext.refl w7).alloc (.cells #[Value.bool f7, Value.slice G7 g7 j7, Value.slice Y7 y7 z7] 26)
          have HE8 := Lib.hid (HE7.out.trans hx8)
          have HX9 := Lib.hid (HX8.out.trans hx8)
          have R58 := Lib.hid (R57.out.ext hx8)
          have R78 := Lib.hid (R7.out.ext hx8)
          have HB8 := Lib.hid (HB7.out.ext hx8)
          clear hi7 hx7 hx8
          go_upto_region 16 with fail
          generalize w7.alloc (.cells #[Value.bool f7, Value.slice G7 g7 j7, Value.slice Y7 y7 z7] 26) = w8 at *
          generalize w7.heap.size = a7 at *
          obtain ⟨b0, b1, b2, _, _, _, bz⟩ := HB8.out.three
          obtain ⟨c0, c1, c2, _, _, _, cz⟩ := HC7.out.three
          go_wp2_with fail
          refine (HSM.out _ _ R58.out.arr _ R78.out.arr).mono ?_
          rintro e w9 ⟨rfl, hx9⟩
          have HE9 := Lib.hid (HE8.out.trans hx9)
          have HX10 := Lib.hid (HX9.out.trans hx9)
          have R59 := Lib.hid (R58.out.ext hx9)
          have HB9 := Lib.hid (HB8.out.ext hx9)
          clear hx9 b0 b1 b2 bz c0 c1 c2 cz
          obtain ⟨b0, b1, b2, _, _, _, bz⟩ := HB9.out.three
          rcases hcd with hc | hc
          · subst hc
            obtain ⟨rfl, rfl⟩ := HPN.out rfl
            have KD2 := Lib.hid (KD.out rfl)
            go_wp2_with fail
            refine (KD2.out _ _ R59.out.arr HX10.out).mono ?_
            rintro e w10 ⟨rfl, hx10⟩
            have HE10 := Lib.hid (HE9.out.trans hx10)
            clear hx10
            go_wp2_with fail
            go_roundw
            case rel => exact ⟨i + 1, by omega, by go_num, HE10.out⟩
            case measure => simp [intOf]; omega
          · have hcb : ((cd : Int) == 0) = false := by rw [beq_eq_false_iff_ne]; omega
            go_wp2_with fail
            go_roundw
            case rel => exact ⟨i + 1, by omega, by go_num, HE9.out⟩
            case measure => simp [intOf]; omega
        · obtain rfl : i = 2 := by omega
          go_wp2_with fail
          go_ret
          exact ⟨rfl, HX7.out⟩
end Big
end Go.Proofs.YtplmldkfgeiklaaGreatDoor
/- The frame round a law's walk: the arguments opened; behind the call they read as they did. -/
namespace Go.Proofs.YtplmldkfgeiklaaGreatDoor
open Go.ChangeShapes Go.WideShapes Go.ChangeAt Go.RowKit

section
variable {H : Type} {enc : TypeId × Value → H} {P : Program}
theorem trodAll_stays (hl : laidOutB P = true) {W W' : World} (hb : Big.Ext W W') : ∀ (ts : List TypeId) (vs : List Value) (ds : List (DataW H)) (ps : List MemPlace),
    (∀ t ∈ ts, P.readableRec t = true ∧ t < P.types.size) → DataW.TrodAll enc P W 0 (fun _ => true) true ts vs ds ps → (∀ x ∈ ps, x.block < W.heap.size) →
    DataW.TrodAll enc P W' 0 (fun b => decide (b < W.heap.size)) true ts vs ds ps
  | [], vs, ds, ps, _, h, _ => by
    obtain ⟨rfl, rfl, rfl⟩ := trodAll_nil h
    exact trodAll_mk0
  | t :: ts, vs, ds, ps, ht, h, hlt => by
    obtain ⟨v, vs', d, ds', p, q, rfl, rfl, rfl, h1, h2⟩ := trodAll_cons h
    exact trodAll_cons_mk (Below.trod hl (ht t (by simp)).1 (ht t (by simp)).2 h1 hb (fun x hx => hlt x (List.mem_append_left _ hx)))
      (trodAll_stays hl hb ts vs' ds' q (fun t' h' => ht t' (by simp [h'])) h2 (fun x hx => hlt x (List.mem_append_right _ hx)))

/-- What the row asks of a law that returned true and left what was there. -/
theorem post_true {f : Func} {s : ChangeSpec} {W W' : World} {args : Array Value} {ds gs : List (DataW H)} {before : List MemPlace} {tb : TypeId} (hl : laidOutB P = true)
    (hts : (f.params.toList.all fun t => P.readableRec t && decide (t < P.types.size)) = true) (hv : s.vars = []) (hr : f.resultTypes = #[tb]) (htb : P.underlying tb = some .bool)
    (hW : DataW.Whole enc P f.params.toList s.vars false W args.toList ds gs before) (hfn : s.fn H ds = { results := [.lit (.bool true)], args := ds }) (hb : Big.Ext W W') :
    s.post enc P f false true false false W args (.bool true) W' := by
  have hlt := hW.lt
  have hW' := hW
  obtain ⟨p, q, hA, hV, rfl, hfz, hnd⟩ := hW
  rw [hv] at hV
  obtain ⟨rfl, rfl⟩ := trodVars_none hV
  have hfn' : s.fn H (ds ++ []) = { results := [.lit (.bool true)], args := ds } := by rw [List.append_nil]; exact hfn
  refine ⟨ds, [], p ++ [], [], p, [], hW', ?_, ?_, ?_, hb.frame _, fun h => by cases h⟩
  · rw [hfn', hr]
    exact trodAll_mk1 (shut_bool htb _)
  · rw [hfn']
    exact trodAll_stays hl hb _ _ _ _ (fun t ht => by
      have := List.all_eq_true.1 hts t ht
      simpa using this) hA (fun x hx => hlt x (by simpa using hx))
  · rw [hfn', hv]
    rfl
end

/-- A law under its row's conditions, with the form of the world at its beginning. -/
theorem handed_and_shaped {H : Type} {enc : TypeId × Value → H} {a : Assume} {C : Checked} {os : Os} {f : FuncId} {fn : Func} {s : ChangeSpec} {conds : List PathCond} {apart fresh handsOn again : Bool} {X : World → Array Value → Prop}
    (hX : ∀ (w w' : World) (args : Array Value), w.heap = w'.heap → X w args → X w' args)
    (own : ownKnob C.prog.godebug = none) (started : os.Started) (noInit : C.prog.inits.idxOf? f = none) (hfn : C.prog.funcs[f]? = some fn)
    (witness : ∃ (w : World) (tape : Tape) (i : Input), w.os = os ∧ (w.forCall tape i).Shaped C.prog ∧ i.vars = [] ∧ Input.okWide C.prog (w.forCall tape i) .any w.heap.size f i ∧
      ((s.pre enc C.prog fn conds apart (w.forCall tape i).memory i.args ∧ X (w.forCall tape i).memory i.args) ∧ sizedMet enc C.prog fn (OpenSpec.ofChange s) apart (w.forCall tape i).memory i.args) ∧ a.holds C.prog (lone (Frame.enter C.prog f i.args .normal) [] (w.forCall tape i)))
    (contract : ∀ (W : World) (base : Nat) (args : Array Value) (ds gs : List (DataW H)) (before : List MemPlace),
      (∀ (j : Nat) t v, fn.params[j]? = some t → args[j]? = some v → Value.okWide C.prog W .any base t v) →
      DataW.Whole enc C.prog fn.params.toList s.vars apart W args.toList ds gs before →
      (DataW.weightsEach C.prog (fn.params.toList ++ s.plain.varTypes C.prog) (ds ++ gs)).all (· ≤ reachBytes) = true → X W args → W.ShapedOpen C.prog →
      Calls C.prog f args W fun e W' => ∃ v, e = .returned v ∧ s.post enc C.prog fn apart fresh handsOn again W args v W') :
    ReturnsInHanded a C os f .any (fun w args => (s.pre enc C.prog fn conds apart w args ∧ X w args) ∧ sizedMet enc C.prog fn (OpenSpec.ofChange s) apart w args) (s.post enc C.prog fn apart fresh handsOn again) := by
  refine returnsInHanded_of_calls own started noInit witness ?_
  intro w tape i _ hsh _ hok hpre hholds
  obtain ⟨_, _, _, fn', hfn', _, _, _, _, hval⟩ := hok
  have e : fn' = fn := Option.some.inj (hfn'.symm.trans hfn)
  subst e
  obtain ⟨⟨⟨ds, gs, before, hw, hc⟩, hx⟩, hz⟩ := hpre
  have hw' := DataW.Whole.of_heap (w' := w.forCall tape i) (by rfl) hw
  refine (contract (w.forCall tape i) w.heap.size i.args ds gs before hval hw' (hz.weights hw) (hX _ _ _ (by rfl) hx) hsh).mono fun e W' ⟨v, he, hp⟩ => ?_
  subst he
  exact ChangeSpec.post_blind hp

theorem laid_out : laidOutB Tryz.prog = true := by kernel_rfl
theorem own : ownKnob Tryz.prog.godebug = none := by kernel_rfl

section
variable {P : Program} {W : World}
/-- One of several variables that a row lists. -/
theorem laidVars_at : ∀ (i : Nat) (l : List (String × DataW Unit)) (ps : List MemPlace) (n : String) (d : DataW Unit), DataW.LaidVars P W l ps → l[i]? = some (n, d) →
    ∃ g t cs f p, P.globalNamed n = some g ∧ (P.globals[g]?).map (·.type) = some t ∧ W.var? P n = some cs ∧ DataW.trod (fun _ => ()) P W 0 (fun _ => true) false f t cs.toList = some (d, p)
  | i, [], ps, n, d, _, hn => by simp at hn
  | 0, x :: l, ps, n, d, h, hn => by
    simp at hn
    subst hn
    obtain ⟨g, t, cs, f, p, q, h1, h2, h3, h4, _, _⟩ := h
    exact ⟨g, t, cs, f, p, h1, h2, h3, h4⟩
  | i + 1, x :: l, ps, n, d, h, hn => by
    obtain ⟨g, t, cs, f, p, q, _, _, _, _, hs, _⟩ := h
    exact laidVars_at i l q n d hs (by simpa using hn)
theorem laid_at (i : Nat) {l : List (String × DataW Unit)} {n : String} {d : DataW Unit} (h : laidMetH P l W) (hp : (l.all fun x => x.2.handleName?.isNone) = true) (hn : l[i]? = some (n, d)) :
    ∃ g t cs f p, P.globalNamed n = some g ∧ (P.globals[g]?).map (·.type) = some t ∧ W.var? P n = some cs ∧ DataW.trod (fun _ => ()) P W 0 (fun _ => true) false f t cs.toList = some (d, p) := by
  rw [MakeChecks.laidMetH_plain _ _ _ hp] at h
  obtain ⟨ps, hv, _⟩ := h
  exact laidVars_at i l ps n d hv hn
end

section
variable {H : Type} {enc : TypeId × Value → H} {W : World} {fuel : Nat} {v : Value} {y : DataW H × List MemPlace}
theorem cellsOf_u32 : Tryz.prog.cellsOf 74 = 1 := by kernel_rfl
/-- A slice of 32-bit digits that came in. -/
theorem arr_of_trod (h : DataW.trod enc Tryz.prog W 0 (fun _ => true) true fuel 22 [v] = some y) : ∃ xs, Big.Arr W v xs := by
  rcases open_ints Tryz.underlying22 Tryz.underlying74 cellsOf_u32 h with ⟨hv, _⟩ | ⟨a, len, cap, zs, hv, _, hl, hm, hz, _, hc, hw⟩
  · injection hv with hv
    subst hv
    exact ⟨[], Big.Arr.none_ W⟩
  · injection hv with hv
    subst hv
    simp only [if_true] at hz
    refine ⟨(zs.take len).map Int.toNat, ?_⟩
    have hlen : ((zs.take len).map Int.toNat).length = len := by simp; omega
    have hok : Big.Ok ((zs.take len).map Int.toNat) := fun x hx => by
      obtain ⟨n, hn, rfl⟩ := List.mem_map.1 hx
      have := bounds_u32 (hw n (List.mem_of_mem_take hn))
      omega
    have key := Big.Arr.mk (w := W) (A := some a) (c := cap) hok (by rw [hlen]; exact hl) hm (fun hp => by
      rw [hlen] at hp ⊢
      obtain ⟨b, off, rfl, hcell⟩ := ints_at hc (by omega)
      have h0 := hcell 0 (by omega)
      refine ⟨b, off, rfl, World.block_lt_of_cell? W _ h0, fun j hj => ?_⟩
      rw [hcell j (by omega)]
      have hj2 : j < zs.length := by omega
      have hb := bounds_u32 (hw zs[j] (List.getElem_mem hj2))
      have e1 : zs.getD j 0 = zs[j] := by rw [List.getD_eq_getElem?_getD, List.getElem?_eq_getElem hj2]; rfl
      have e2 : ((zs.take len).map Int.toNat).getD j 0 = zs[j].toNat := by
        rw [List.getD_eq_getElem?_getD, List.getElem?_map, List.getElem?_take_of_lt hj, List.getElem?_eq_getElem hj2]; rfl
      rw [e1, e2]
      unfold Big.d32
      rw [Int.toNat_of_nonneg hb.1])
    rw [hlen] at key
    exact key
theorem bool_of_trod (h : DataW.trod enc Tryz.prog W 0 (fun _ => true) true fuel 4 [v] = some y) : ∃ b, v = .bool b := by
  obtain ⟨b, hb, _⟩ := DataW.trod_bool Tryz.underlying4 h
  injection hb with hb
  exact ⟨b, hb⟩
end
section
variable {H : Type} {enc : TypeId × Value → H} {W : World} {v : Value} {d : DataW H} {p : List MemPlace} {r : Reach} {b0 : Nat}
set_option maxRecDepth 100000 in
theorem open_u32s (hv : Value.okWide Tryz.prog W r b0 22 v) (h : DataW.Trod enc Tryz.prog W 0 (fun _ => true) true 22 v d p) : ∃ xs, Big.Arr W v xs := by
  obtain ⟨a, len, cap, rfl⟩ := okWide_slice Tryz.underlying22 hv
  obtain ⟨fuel, hf⟩ := h
  obtain ⟨xs, hxs⟩ := arr_of_trod (by simpa [Value.cells] using hf)
  exact ⟨xs, hxs⟩
end
theorem byte_of_wf {z : Int} (w : (Lit.int .u8 z).wf = true) : ∃ d : UInt8, z = (d.toNat : Int) := by
  have h := bounds_u8 w
  refine ⟨UInt8.ofNat z.toNat, ?_⟩
  have e : (UInt8.ofNat z.toNat).toNat = z.toNat % 2 ^ 8 := UInt8.toNat_ofNat'
  rw [e, Nat.mod_eq_of_lt (by omega)]
  omega
theorem u64_of_wf {z : Int} (w : (Lit.int .u64 z).wf = true) : ∃ n : Nat, n < 18446744073709551616 ∧ z = (n : Int) := by
  have h := bounds_u64 w
  exact ⟨z.toNat, by omega, by omega⟩
theorem str_of_bytes {s : ByteArray} (h : s.size ≤ maxLen) : ∃ l : List UInt8, l.length ≤ maxLen ∧ s = ⟨l.toArray⟩ := by
  refine ⟨s.data.toList, by simpa using h, ?_⟩
  apply ByteArray.ext
  simp
end Go.Proofs.YtplmldkfgeiklaaGreatDoor
/- What the condition on the table of lowest bits gives the walks. -/
namespace Go.Proofs.YtplmldkfgeiklaaGreatDoor
open Go.ChangeShapes Go.WideShapes Go.ChangeAt Go.RowKit
theorem g32 : Tryz.prog.globalNamed "math/bits.deBruijn32tab" = some 0 := by kernel_rfl
theorem t32 : (Tryz.prog.globals[0]?).map (·.type) = some 135 := by kernel_rfl
theorem cells32 : Tryz.prog.cellsOf 135 = 32 := by kernel_rfl
theorem cells8b : Tryz.prog.cellsOf 5 = 1 := by kernel_rfl
def tab32 : List Int := [0, 1, 28, 2, 29, 14, 24, 3, 30, 22, 20, 15, 25, 17, 4, 8, 31, 27, 13, 23, 21, 19, 16, 7, 26, 12, 18, 6, 11, 5, 10, 9]
theorem tab32_get : ∀ i : Fin 32, (tab32.map (fun z => Value.int .u8 z))[i.val]? = some (.int .u8 ((Big.tzTab.getD i.val 0 : Nat) : Int)) := by
  intro ⟨i, hi⟩
  have : i = 0 ∨ i = 1 ∨ i = 2 ∨ i = 3 ∨ i = 4 ∨ i = 5 ∨ i = 6 ∨ i = 7 ∨ i = 8 ∨ i = 9 ∨ i = 10 ∨ i = 11 ∨ i = 12 ∨ i = 13 ∨ i = 14 ∨ i = 15 ∨ i = 16 ∨ i = 17 ∨ i = 18 ∨ i = 19 ∨ i = 20 ∨ i = 21 ∨ i = 22 ∨ i = 23 ∨ i = 24 ∨ i = 25 ∨ i = 26 ∨ i = 27 ∨ i = 28 ∨ i = 29 ∨ i = 30 ∨ i = 31 := by omega
  rcases this with rfl | rfl | rfl | rfl | rfl | rfl | rfl | rfl | rfl | rfl | rfl | rfl | rfl | rfl | rfl | rfl | rfl | rfl | rfl | rfl | rfl | rfl | rfl | rfl | rfl | rfl | rfl | rfl | rfl | rfl | rfl | rfl <;> rfl
theorem tab32_of_laid {W : World} {l : List (String × DataW Unit)} (i : Nat) (h : laidMetH Tryz.prog l W) (hp : (l.all fun x => x.2.handleName?.isNone) = true) (hn : l[i]? = some ("math/bits.deBruijn32tab", Rows.laid_math_bits_deBruijn32tab)) : Big.Tab32 W := by
  obtain ⟨g1, t1, cs1, f1, p1, hg1, ht1, hv1, hd1⟩ := laid_at i h hp hn
  obtain rfl := Option.some.inj (g32.symm.trans hg1)
  obtain rfl := Option.some.inj (t32.symm.trans ht1)
  have hcs := Lib.cells_of_tab (zs := tab32) (k := .u8) Tryz.underlying135 Tryz.underlying5 cells8b cells32 (show DataW.trod _ Tryz.prog W 0 _ false f1 135 cs1.toList = some (Lib.tabData .u8 tab32, p1) from hd1)
  have key : ∀ j, j < 32 → W.cell? ⟨0, j, none⟩ = some (.int .u8 ((Big.tzTab.getD j 0 : Nat) : Int)) := by
    intro j hj
    have hc := World.var?_cell hg1 hv1 j
    have h15 : cs1[j]? = some (.int .u8 ((Big.tzTab.getD j 0 : Nat) : Int)) := by
      rw [← Array.getElem?_toList, hcs]
      exact tab32_get ⟨j, hj⟩
    rw [h15] at hc
    exact hc
  exact ⟨key, World.block_lt_of_cell? W _ (key 0 (by decide))⟩
end Go.Proofs.YtplmldkfgeiklaaGreatDoor
