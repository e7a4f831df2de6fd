import Derived.Test.YtelgknpdiaafaaaDoorM13
import Derived.Test.YtelgknpdiaafaaaDoorM14
import Derived.Test.YtelgknpdiaafaaaDoorRows
import Derived.Test.YtelgknpdiaafaaaDoorM3
import Derived.ProofKit
import Derived.LaidMore
import Derived.OpenShut
import Derived.Stop.Joined
import Derived.Lib.LaidTab
import Derived.Carry
import Derived.Handed
import Derived.HandedShaped
import Derived.Deep.Strs
import Derived.ChangeMaps5
import Derived.Lib.SmallJoins
/- The sanity check of chapter 18; LexerWords. -/
namespace Go.Proofs.YtelgknpdiaafaaaDoor
namespace Big
open Go.RowKit
theorem scan_1 : scanT [120, 49, 32, 43, 50, 46, 53] = ([⟨2, 0, [120, 49]⟩, ⟨3, 3, [43]⟩, ⟨1, 4, [50, 46, 53]⟩], 7, 0) := by decide +kernel
theorem scan_2 : scanT [50, 46, 46, 53] = ([], 0, 6) := by decide +kernel
theorem scan_3 : scanT [97, 36] = ([], 1, 6) := by decide +kernel
theorem ownsRow_cells {w : World} {base : Nat} {e : TypeId} {size n : Nat} {v : Value} {xs : List Value} (h : w.ownsRow base e size v n xs) (hp : 0 < n) : ∃ g c, v = .slice (some ⟨g, 0, none⟩) n c ∧ base ≤ g ∧ g < w.heap.size ∧ n ≤ c ∧ c ≤ maxLen ∧ ∀ j u, xs[j]? = some u → w.cell? ⟨g, j, none⟩ = some u := by
  obtain ⟨h1, h2⟩ := h
  rcases h2 with ⟨_, h2⟩ | ⟨g, cap, cur, rfl, hg, hh, r1, r2, r3, r4⟩
  · omega
  · refine ⟨g, cap, rfl, hg, ?_, r1, r2, fun j u hj => ?_⟩
    · rcases Nat.lt_or_ge g w.heap.size with h | h
      · exact h
      · rw [Array.getElem?_eq_none h] at hh; cases hh
    · rw [cell_of_row w g j cur e (0, 0) hh]
      exact take_at r4 hj
set_option maxHeartbeats 1000000 in
set_option maxRecDepth 100000 in
theorem awake18_any (w : World) (hm : MaxV w) : Calls Tryd.prog 5 #[] w fun e w' => e = .returned (.bool true) ∧ Ext w w' := by
  have H1 := Lib.hid (scan_any w [120, 49, 32, 43, 50, 46, 53] hm)
  have H2 := Lib.hid (fun W hx => scan_any W [50, 46, 46, 53] (hm.ext (w' := W) hx))
  have H3 := Lib.hid (fun W hx => scan_any W [97, 36] (hm.ext (w' := W) hx))
  unfold ScanRes at H1 H2 H3
  rw [scan_1] at H1
  rw [scan_2] at H2
  rw [scan_3] at H3
  simp only [List.length_cons, List.length_nil, Nat.zero_add, Nat.reduceAdd, toksC, tokC, List.flatMap_cons, List.flatMap_nil, List.cons_append, List.nil_append, List.append_nil] at H1 H2 H3
  clear hm
  go_enter Tryd.func5, Tryd.ntmps5
  go_wp2_with fail
  refine H1.out.mono ?_
  rintro e w1 ⟨v1, rfl, hr1, hx1⟩
  obtain ⟨g, c, rfl, _, hgl, hc, hcm, hcell⟩ := ownsRow_cells hr1 (by decide)
  have HC := Lib.hid hcell
  have HX1 := Lib.hid hx1
  clear hr1 hx1 hcell
  go_wp2_with fail
  refine (H2.out _ HX1.out).mono ?_
  rintro e w2 ⟨v2, rfl, hr2, hx2⟩
  obtain ⟨A2, c2, rfl⟩ := ownsRow_shape hr2
  have HX2 := Lib.hid (HX1.out.trans hx2)
  have HXA := Lib.hid hx2
  clear hr2 hx2
  go_wp2_with fail
  refine (H3.out _ HX2.out).mono ?_
  rintro e w3 ⟨v3, rfl, hr3, hx3⟩
  obtain ⟨A3, c3, rfl⟩ := ownsRow_shape hr3
  have HX3 := Lib.hid (HX2.out.trans hx3)
  have hd0 := ((HXA.out.trans hx3).cell hgl).trans (HC.out 6 _ rfl)
  have hd1 := ((HXA.out.trans hx3).cell hgl).trans (HC.out 7 _ rfl)
  have hd2 := ((HXA.out.trans hx3).cell hgl).trans (HC.out 8 _ rfl)
  have hs : str [50, 46, 53] = .string ⟨#[50, 46, 53]⟩ := rfl
  rw [hs] at hd2
  clear hr3 hx3 hs hc hcm
  go_wp2_with fail
  go_ret
  exact ⟨rfl, HX3.out⟩
set_option maxHeartbeats 2000000 in
set_option maxRecDepth 100000 in
theorem lexerWords_any (w : World) (l : List UInt8) (n : Int) (hl : l.length ≤ maxLen) (hn1 : -9223372036854775808 ≤ n) (hn2 : n ≤ 9223372036854775807) (hm : MaxV w) :
    Calls Tryd.prog 4 #[str l, .int .i64 n] w fun e w' => e = .returned (.bool true) ∧ Ext w w' := by
  have HAW := Lib.hid (awake18_any w hm)
  unfold maxLen at hl
  rcases Nat.lt_or_ge 200 l.length with h200 | h200
  · have hd : (200 : Int) < (l.length : Int) := by omega
    clear hm h200
    go_enter Tryd.func4, Tryd.ntmps4
    go_wp2_with fail
    refine HAW.out.mono ?_
    rintro e w1 ⟨rfl, hx1⟩
    have HX1 := Lib.hid hx1
    clear hx1
    go_wp2_with fail
    go_ret
    exact ⟨rfl, HX1.out⟩
  · have hd : ¬ (200 : Int) < (l.length : Int) := by omega
    have hd2 : decide ((200 : Int) < (l.length : Int)) = false := by simp; omega
    have HMD := Lib.hid (fun W => mod_any W n 40 hn1 hn2 (by decide) (by decide))
    have hm1 := Int.emod_nonneg n (show (40 : Int) ≠ 0 by decide)
    have hm2 := Int.emod_lt_of_pos n (show (0 : Int) < 40 by decide)
    generalize n % 40 = m at *
    obtain ⟨m, rfl⟩ := Int.eq_ofNat_of_zero_le hm1
    have hmk := run_make8 m (by omega)
    clear hm hm1 hl
    go_enter Tryd.func4, Tryd.ntmps4
    go_wp2_with fail
    refine HAW.out.mono ?_
    rintro e w1 ⟨rfl, hx1⟩
    have HX1 := Lib.hid hx1
    clear hx1
    go_wp2_with fail
    refine (HMD.out _).mono ?_
    rintro e w2 ⟨rfl, rfl⟩
    go_wp2_with fail
    clear hmk
    have hg := HX1.out.size
    have HB0 := Lib.hid (Blk.new w1 5 (cells8 (List.replicate m 0)))
    have HX2 := Lib.hid (HX1.out.alloc (.cells (cells8 (List.replicate m 0)) 5))
    generalize w1.heap.size = gb at *
    go_loopw [19] (fun s19 wr => ∃ (k : Nat) (bs : List UInt8), k ≤ m ∧ s19 = .int .i64 (k : Int) ∧ bs.length = m ∧ Blk wr gb 5 (cells8 bs) ∧ Ext w wr) (fun s19 _ => m - (intOf s19).toNat)
    case atStart => exact ⟨0, List.replicate m 0, Nat.zero_le _, rfl, by simp, HB0.out, HX2.out⟩
    case round =>
      obtain ⟨k, bs, hk, rfl, hbl, hb, hx⟩ := hrel
      have HBL := Lib.hid hbl
      have HX := Lib.hid hx
      by_cases hlt : k < m
      · have hst := hb.cell k
        have hfz := hb.frozen k
        rw [get_cells8 _ _ (by omega)] at hst
        generalize bs[k] = b0 at hst
        obtain ⟨b, hb1⟩ : ∃ b : UInt8, b.toNat = 97 + k % 26 := ⟨UInt8.ofNat (97 + k % 26), by simp; omega⟩
        have hv : ((97 : Int) + (k : Int) % 26) = (b.toNat : Int) := by omega
        have hset := hb.set_ k (d8 b)
        rw [set_cells8] at hset
        have HSET := Lib.hid hset
        have HXS := Lib.hid (hx.setCell (p := ⟨gb, k, none⟩) hg (d8 b))
        have HV := Lib.hid hv
        clear hb hx hset hbl hb1 hv
        simp only [d8] at hst HSET HXS
        rw [← HV.out] at HSET HXS
        go_wp2_with fail
        go_roundw
        case rel => exact ⟨k + 1, _, by omega, by go_num, by simp [HBL.out], HSET.out, HXS.out⟩
        case measure => simp [intOf]; omega
      · obtain rfl : k = m := by omega
        have harr := Arr8.block hb (by omega)
        rw [hbl] at harr
        have hst := run_string8 harr
        have hbm : bs.length ≤ 200 := by omega
        clear hb hx harr hbl
        go_wp2_with fail
        obtain ⟨sv, hsv⟩ : ∃ sv : List (List UInt8), sv = [l, bs, [112, 105], [101], [115, 113, 114, 116], [101, 120, 112], [108, 110], [115, 105, 110], [99, 111, 115], [97, 116, 97, 110], [69], [95, 97], [97, 95], [57, 97], [97, 57], []] := ⟨_, rfl⟩
        have HLS : Hid (∀ x ∈ sv, x.length ≤ 200) := Lib.hid (fun x hx => by
          subst hsv
          simp only [List.mem_cons, List.not_mem_nil, or_false] at hx
          rcases hx with rfl | rfl | rfl | rfl | rfl | rfl | rfl | rfl | rfl | rfl | rfl | rfl | rfl | rfl | rfl | rfl
          · exact h200
          · exact hbm
          all_goals decide)
        have hn16 : sv.length = 16 := by rw [hsv]; rfl
        have harr : ArrS (wr.alloc (.cells (sv.map str).toArray 9)) (.slice (some ⟨wr.heap.size, 0, none⟩) sv.length sv.length) sv :=
          (OwnS.block (B := wr.heap.size) (ls := sv) (Blk.new wr 9 _) (Nat.le_refl _) (by omega)).arr
        have hcs : (sv.map str).toArray = #[str l, str bs, .string ⟨#[112, 105]⟩, .string ⟨#[101]⟩, .string ⟨#[115, 113, 114, 116]⟩, .string ⟨#[101, 120, 112]⟩, .string ⟨#[108, 110]⟩, .string ⟨#[115, 105, 110]⟩, .string ⟨#[99, 111, 115]⟩, .string ⟨#[97, 116, 97, 110]⟩, .string ⟨#[69]⟩, .string ⟨#[95, 97]⟩, .string ⟨#[97, 95]⟩, .string ⟨#[57, 97]⟩, .string ⟨#[97, 57]⟩, .string ⟨#[]⟩] := by rw [hsv]; rfl
        have HXF := Lib.hid (HX.out.alloc (.cells (sv.map str).toArray 9))
        rw [hcs] at harr HXF
        obtain ⟨_, c16, _, _, hc16, hcell⟩ := harr.open
        obtain ⟨bb, oo, he, hbl, hcell⟩ := hcell (by omega)
        have hcw : ∀ j (hj : j < sv.length), (wr.alloc (.cells #[str l, str bs, .string ⟨#[112, 105]⟩, .string ⟨#[101]⟩, .string ⟨#[115, 113, 114, 116]⟩, .string ⟨#[101, 120, 112]⟩, .string ⟨#[108, 110]⟩, .string ⟨#[115, 105, 110]⟩, .string ⟨#[99, 111, 115]⟩, .string ⟨#[97, 116, 97, 110]⟩, .string ⟨#[69]⟩, .string ⟨#[95, 97]⟩, .string ⟨#[97, 95]⟩, .string ⟨#[57, 97]⟩, .string ⟨#[97, 57]⟩, .string ⟨#[]⟩] 9)).cell? ⟨wr.heap.size, j, none⟩ = some (str sv[j]) := fun j hj => by
          have h1 := (Blk.new wr 9 (sv.map str).toArray).cell j
          rw [hcs] at h1
          rw [h1, ← hcs, List.getElem?_toArray]
          exact map_str_get hj
        have HCW := Lib.hid hcw
        have HSV := Lib.hid hsv
        have HN16 := Lib.hid hn16
        have hwz : wr.heap.size < (wr.alloc (.cells #[str l, str bs, .string ⟨#[112, 105]⟩, .string ⟨#[101]⟩, .string ⟨#[115, 113, 114, 116]⟩, .string ⟨#[101, 120, 112]⟩, .string ⟨#[108, 110]⟩, .string ⟨#[115, 105, 110]⟩, .string ⟨#[99, 111, 115]⟩, .string ⟨#[97, 116, 97, 110]⟩, .string ⟨#[69]⟩, .string ⟨#[95, 97]⟩, .string ⟨#[97, 95]⟩, .string ⟨#[57, 97]⟩, .string ⟨#[97, 57]⟩, .string ⟨#[]⟩] 9)).heap.size := by simp
        clear hcw hsv hn16 hcs harr hcell he hbl hst
        generalize hwa : wr.alloc (.cells #[str l, str bs, .string ⟨#[112, 105]⟩, .string ⟨#[101]⟩, .string ⟨#[115, 113, 114, 116]⟩, .string ⟨#[101, 120, 112]⟩, .string ⟨#[108, 110]⟩, .string ⟨#[115, 105, 110]⟩, .string ⟨#[99, 111, 115]⟩, .string ⟨#[97, 116, 97, 110]⟩, .string ⟨#[69]⟩, .string ⟨#[95, 97]⟩, .string ⟨#[97, 95]⟩, .string ⟨#[57, 97]⟩, .string ⟨#[97, 57]⟩, .string ⟨#[]⟩] 9) = wa at *
        clear hwa
        generalize wr.heap.size = ga at *
        generalize wr = wb at *
        go_loopw [35] (fun s35 wr => ∃ i : Nat, i ≤ 16 ∧ s35 = .int .i64 (i : Int) ∧ Ext wa wr) (fun s35 _ => 16 - (intOf s35).toNat)
        case atStart => exact ⟨0, Nat.zero_le _, rfl, Ext.refl _⟩
        case round =>
          obtain ⟨i, hi, rfl, hx⟩ := hrel
          have HX9 := Lib.hid hx
          by_cases hlt : i < 16
          · have hi16 : i < sv.length := by rw [HN16.out]; exact hlt
            have hld := (hx.cell hwz).trans (HCW.out i hi16)
            have hxl := HLS.out sv[i] (List.getElem_mem hi16)
            clear hx
            generalize sv[i] = x at *
            have K1 := Lib.hid (fun W => word_any W x (by omega))
            have K2 := Lib.hid (fun W => rWord_any W x (by omega))
            have K3 := Lib.hid (fun W => reserved_any W x)
            have K4 := Lib.hid (fun W => rreserved_any W x)
            have K5 := Lib.hid (fun W => function_any W x)
            have K6 := Lib.hid (fun W => rfunction_any W x)
            have q1 : (wordB x != wordB x) = false := by simp
            have q2 : (reservedB x != reservedB x) = false := by simp
            have q3 : ((funcK x : Int) != (funcK x : Int)) = false := by simp
            go_wp2_with fail
            refine (K1.out _).mono ?_
            rintro e w5 ⟨rfl, rfl⟩
            go_wp2_with fail
            refine (K2.out _).mono ?_
            rintro e w5 ⟨rfl, rfl⟩
            go_wp2_with fail
            refine (K3.out _).mono ?_
            rintro e w5 ⟨rfl, rfl⟩
            go_wp2_with fail
            refine (K4.out _).mono ?_
            rintro e w6 ⟨rfl, hx6⟩
            have HX10 := Lib.hid (HX9.out.trans hx6)
            clear hx6
            go_wp2_with fail
            refine (K5.out _).mono ?_
            rintro e w5 ⟨rfl, rfl⟩
            go_wp2_with fail
            refine (K6.out _).mono ?_
            rintro e w7 ⟨rfl, hx7⟩
            have HX11 := Lib.hid (HX10.out.trans hx7)
            clear hx7
            go_wp2_with fail
            go_roundw
            case rel => exact ⟨i + 1, by omega, by go_num, HX11.out⟩
            case measure => simp [intOf]; omega
          · obtain rfl : i = 16 := by omega
            clear hx
            go_wp2_with fail
            go_ret
            exact ⟨rfl, HXF.out.trans HX9.out⟩
end Big
end Go.Proofs.YtelgknpdiaafaaaDoor
/- The frame round a law's walk: the arguments opened; behind the call they read as they did. -/
namespace Go.Proofs.YtelgknpdiaafaaaDoor
open Go.ChangeShapes Go.WideShapes Go.ChangeAt Go.RowKit

section
variable {H : Type} {enc : TypeId × Value → H} {P : Program}
theorem trodAll_stays (hl : laidOutB P = true) {W W' : World} (hb : Big.Ext W W') : ∀ (ts : List TypeId) (vs : List Value) (ds : List (DataW H)) (ps : List MemPlace),
    (∀ t ∈ ts, P.readableRec t = true ∧ t < P.types.size) → DataW.TrodAll enc P W 0 (fun _ => true) true ts vs ds ps → (∀ x ∈ ps, x.block < W.heap.size) →
    DataW.TrodAll enc P W' 0 (fun b => decide (b < W.heap.size)) true ts vs ds ps
  | [], vs, ds, ps, _, h, _ => by
    obtain ⟨rfl, rfl, rfl⟩ := trodAll_nil h
    exact trodAll_mk0
  | t :: ts, vs, ds, ps, ht, h, hlt => by
    obtain ⟨v, vs', d, ds', p, q, rfl, rfl, rfl, h1, h2⟩ := trodAll_cons h
    exact trodAll_cons_mk (Below.trod hl (ht t (by simp)).1 (ht t (by simp)).2 h1 hb (fun x hx => hlt x (List.mem_append_left _ hx)))
      (trodAll_stays hl hb ts vs' ds' q (fun t' h' => ht t' (by simp [h'])) h2 (fun x hx => hlt x (List.mem_append_right _ hx)))

/-- What the row asks of a law that returned true and left what was there. -/
theorem post_true {f : Func} {s : ChangeSpec} {W W' : World} {args : Array Value} {ds gs : List (DataW H)} {before : List MemPlace} {tb : TypeId} (hl : laidOutB P = true)
    (hts : (f.params.toList.all fun t => P.readableRec t && decide (t < P.types.size)) = true) (hv : s.vars = []) (hr : f.resultTypes = #[tb]) (htb : P.underlying tb = some .bool)
    (hW : DataW.Whole enc P f.params.toList s.vars false W args.toList ds gs before) (hfn : s.fn H ds = { results := [.lit (.bool true)], args := ds }) (hb : Big.Ext W W') :
    s.post enc P f false true false false W args (.bool true) W' := by
  have hlt := hW.lt
  have hW' := hW
  obtain ⟨p, q, hA, hV, rfl, hfz, hnd⟩ := hW
  rw [hv] at hV
  obtain ⟨rfl, rfl⟩ := trodVars_none hV
  have hfn' : s.fn H (ds ++ []) = { results := [.lit (.bool true)], args := ds } := by rw [List.append_nil]; exact hfn
  refine ⟨ds, [], p ++ [], [], p, [], hW', ?_, ?_, ?_, hb.frame _, fun h => by cases h⟩
  · rw [hfn', hr]
    exact trodAll_mk1 (shut_bool htb _)
  · rw [hfn']
    exact trodAll_stays hl hb _ _ _ _ (fun t ht => by
      have := List.all_eq_true.1 hts t ht
      simpa using this) hA (fun x hx => hlt x (by simpa using hx))
  · rw [hfn', hv]
    rfl
end

/-- A law under its row's conditions, with the form of the world at its beginning. -/
theorem handed_and_shaped {H : Type} {enc : TypeId × Value → H} {a : Assume} {C : Checked} {os : Os} {f : FuncId} {fn : Func} {s : ChangeSpec} {conds : List PathCond} {apart fresh handsOn again : Bool} {X : World → Array Value → Prop}
    (hX : ∀ (w w' : World) (args : Array Value), w.heap = w'.heap → X w args → X w' args)
    (own : ownKnob C.prog.godebug = none) (started : os.Started) (noInit : C.prog.inits.idxOf? f = none) (hfn : C.prog.funcs[f]? = some fn)
    (witness : ∃ (w : World) (tape : Tape) (i : Input), w.os = os ∧ (w.forCall tape i).Shaped C.prog ∧ i.vars = [] ∧ Input.okWide C.prog (w.forCall tape i) .any w.heap.size f i ∧
      ((s.pre enc C.prog fn conds apart (w.forCall tape i).memory i.args ∧ X (w.forCall tape i).memory i.args) ∧ sizedMet enc C.prog fn (OpenSpec.ofChange s) apart (w.forCall tape i).memory i.args) ∧ a.holds C.prog (lone (Frame.enter C.prog f i.args .normal) [] (w.forCall tape i)))
    (contract : ∀ (W : World) (base : Nat) (args : Array Value) (ds gs : List (DataW H)) (before : List MemPlace),
      (∀ (j : Nat) t v, fn.params[j]? = some t → args[j]? = some v → Value.okWide C.prog W .any base t v) →
      DataW.Whole enc C.prog fn.params.toList s.vars apart W args.toList ds gs before →
      (DataW.weightsEach C.prog (fn.params.toList ++ s.plain.varTypes C.prog) (ds ++ gs)).all (· ≤ reachBytes) = true → X W args → W.ShapedOpen C.prog →
      Calls C.prog f args W fun e W' => ∃ v, e = .returned v ∧ s.post enc C.prog fn apart fresh handsOn again W args v W') :
    ReturnsInHanded a C os f .any (fun w args => (s.pre enc C.prog fn conds apart w args ∧ X w args) ∧ sizedMet enc C.prog fn (OpenSpec.ofChange s) apart w args) (s.post enc C.prog fn apart fresh handsOn again) := by
  refine returnsInHanded_of_calls own started noInit witness ?_
  intro w tape i _ hsh _ hok hpre hholds
  obtain ⟨_, _, _, fn', hfn', _, _, _, _, hval⟩ := hok
  have e : fn' = fn := Option.some.inj (hfn'.symm.trans hfn)
  subst e
  obtain ⟨⟨⟨ds, gs, before, hw, hc⟩, hx⟩, hz⟩ := hpre
  have hw' := DataW.Whole.of_heap (w' := w.forCall tape i) (by rfl) hw
  refine (contract (w.forCall tape i) w.heap.size i.args ds gs before hval hw' (hz.weights hw) (hX _ _ _ (by rfl) hx) hsh).mono fun e W' ⟨v, he, hp⟩ => ?_
  subst he
  exact ChangeSpec.post_blind hp

theorem laid_out : laidOutB Tryd.prog = true := by kernel_rfl
theorem own : ownKnob Tryd.prog.godebug = none := by kernel_rfl

section
variable {P : Program} {W : World}
/-- One of several variables that a row lists. -/
theorem laidVars_at : ∀ (i : Nat) (l : List (String × DataW Unit)) (ps : List MemPlace) (n : String) (d : DataW Unit), DataW.LaidVars P W l ps → l[i]? = some (n, d) →
    ∃ g t cs f p, P.globalNamed n = some g ∧ (P.globals[g]?).map (·.type) = some t ∧ W.var? P n = some cs ∧ DataW.trod (fun _ => ()) P W 0 (fun _ => true) false f t cs.toList = some (d, p)
  | i, [], ps, n, d, _, hn => by simp at hn
  | 0, x :: l, ps, n, d, h, hn => by
    simp at hn
    subst hn
    obtain ⟨g, t, cs, f, p, q, h1, h2, h3, h4, _, _⟩ := h
    exact ⟨g, t, cs, f, p, h1, h2, h3, h4⟩
  | i + 1, x :: l, ps, n, d, h, hn => by
    obtain ⟨g, t, cs, f, p, q, _, _, _, _, hs, _⟩ := h
    exact laidVars_at i l q n d hs (by simpa using hn)
theorem laid_at (i : Nat) {l : List (String × DataW Unit)} {n : String} {d : DataW Unit} (h : laidMetH P l W) (hp : (l.all fun x => x.2.handleName?.isNone) = true) (hn : l[i]? = some (n, d)) :
    ∃ g t cs f p, P.globalNamed n = some g ∧ (P.globals[g]?).map (·.type) = some t ∧ W.var? P n = some cs ∧ DataW.trod (fun _ => ()) P W 0 (fun _ => true) false f t cs.toList = some (d, p) := by
  rw [MakeChecks.laidMetH_plain _ _ _ hp] at h
  obtain ⟨ps, hv, _⟩ := h
  exact laidVars_at i l ps n d hv hn
end

section
variable {H : Type} {enc : TypeId × Value → H} {W : World} {fuel : Nat} {v : Value} {y : DataW H × List MemPlace}
theorem cellsOf_u32 : Tryd.prog.cellsOf 54 = 1 := by kernel_rfl
/-- A slice of 32-bit digits that came in. -/
theorem arr_of_trod (h : DataW.trod enc Tryd.prog W 0 (fun _ => true) true fuel 41 [v] = some y) : ∃ xs, Big.Arr W v xs := by
  rcases open_ints Tryd.underlying41 Tryd.underlying54 cellsOf_u32 h with ⟨hv, _⟩ | ⟨a, len, cap, zs, hv, _, hl, hm, hz, _, hc, hw⟩
  · injection hv with hv
    subst hv
    exact ⟨[], Big.Arr.none_ W⟩
  · injection hv with hv
    subst hv
    simp only [if_true] at hz
    refine ⟨(zs.take len).map Int.toNat, ?_⟩
    have hlen : ((zs.take len).map Int.toNat).length = len := by simp; omega
    have hok : Big.Ok ((zs.take len).map Int.toNat) := fun x hx => by
      obtain ⟨n, hn, rfl⟩ := List.mem_map.1 hx
      have := bounds_u32 (hw n (List.mem_of_mem_take hn))
      omega
    have key := Big.Arr.mk (w := W) (A := some a) (c := cap) hok (by rw [hlen]; exact hl) hm (fun hp => by
      rw [hlen] at hp ⊢
      obtain ⟨b, off, rfl, hcell⟩ := ints_at hc (by omega)
      have h0 := hcell 0 (by omega)
      refine ⟨b, off, rfl, World.block_lt_of_cell? W _ h0, fun j hj => ?_⟩
      rw [hcell j (by omega)]
      have hj2 : j < zs.length := by omega
      have hb := bounds_u32 (hw zs[j] (List.getElem_mem hj2))
      have e1 : zs.getD j 0 = zs[j] := by rw [List.getD_eq_getElem?_getD, List.getElem?_eq_getElem hj2]; rfl
      have e2 : ((zs.take len).map Int.toNat).getD j 0 = zs[j].toNat := by
        rw [List.getD_eq_getElem?_getD, List.getElem?_map, List.getElem?_take_of_lt hj, List.getElem?_eq_getElem hj2]; rfl
      rw [e1, e2]
      unfold Big.d32
      rw [Int.toNat_of_nonneg hb.1])
    rw [hlen] at key
    exact key
theorem bool_of_trod (h : DataW.trod enc Tryd.prog W 0 (fun _ => true) true fuel 4 [v] = some y) : ∃ b, v = .bool b := by
  obtain ⟨b, hb, _⟩ := DataW.trod_bool Tryd.underlying4 h
  injection hb with hb
  exact ⟨b, hb⟩
end
section
variable {H : Type} {enc : TypeId × Value → H} {W : World} {v : Value} {d : DataW H} {p : List MemPlace} {r : Reach} {b0 : Nat}
set_option maxRecDepth 100000 in
theorem open_u32s (hv : Value.okWide Tryd.prog W r b0 41 v) (h : DataW.Trod enc Tryd.prog W 0 (fun _ => true) true 41 v d p) : ∃ xs, Big.Arr W v xs := by
  obtain ⟨a, len, cap, rfl⟩ := okWide_slice Tryd.underlying41 hv
  obtain ⟨fuel, hf⟩ := h
  obtain ⟨xs, hxs⟩ := arr_of_trod (by simpa [Value.cells] using hf)
  exact ⟨xs, hxs⟩
end
theorem byte_of_wf {z : Int} (w : (Lit.int .u8 z).wf = true) : ∃ d : UInt8, z = (d.toNat : Int) := by
  have h := bounds_u8 w
  refine ⟨UInt8.ofNat z.toNat, ?_⟩
  have e : (UInt8.ofNat z.toNat).toNat = z.toNat % 2 ^ 8 := UInt8.toNat_ofNat'
  rw [e, Nat.mod_eq_of_lt (by omega)]
  omega
theorem u64_of_wf {z : Int} (w : (Lit.int .u64 z).wf = true) : ∃ n : Nat, n < 18446744073709551616 ∧ z = (n : Int) := by
  have h := bounds_u64 w
  exact ⟨z.toNat, by omega, by omega⟩
theorem str_of_bytes {s : ByteArray} (h : s.size ≤ maxLen) : ∃ l : List UInt8, l.length ≤ maxLen ∧ s = ⟨l.toArray⟩ := by
  refine ⟨s.data.toList, by simpa using h, ?_⟩
  apply ByteArray.ext
  simp
end Go.Proofs.YtelgknpdiaafaaaDoor
