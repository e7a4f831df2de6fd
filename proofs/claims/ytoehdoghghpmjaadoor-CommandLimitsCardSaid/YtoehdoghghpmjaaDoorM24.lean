import Derived.Test.YtoehdoghghpmjaaDoorM19
import Derived.Test.YtoehdoghghpmjaaDoorM22
import Derived.Test.YtoehdoghghpmjaaDoorM23
import Derived.Test.YtoehdoghghpmjaaDoorM15
import Derived.Test.YtoehdoghghpmjaaDoorRows
import Derived.Test.YtoehdoghghpmjaaDoorM4
import Derived.ProofKit
import Derived.LaidMore
import Derived.OpenShut
import Derived.Stop.Joined
import Derived.Lib.LaidTab
import Derived.Carry
import Derived.Handed
import Derived.HandedShaped
import Derived.Deep.Strs
import Derived.ChangeMaps5
import Derived.Lib.SmallJoins
import Derived.LaidLaws
/- CommandLimits. -/
namespace Go.Proofs.YtoehdoghghpmjaaDoor
namespace Big
open Go.RowKit
set_option maxHeartbeats 4000000 in
set_option maxRecDepth 100000 in
theorem commandLimits_any (w : World) (n : Int) (x : UInt8) (z : Int) (hn1 : -9223372036854775808 ≤ n) (hn2 : n ≤ 9223372036854775807) (hz1 : -9223372036854775808 ≤ z) (hz2 : z ≤ 9223372036854775807) (hm : MaxV w) (hE : CmdEnv w) :
    Calls Tryd.prog 3 #[.int .i64 n, .int .u8 (x.toNat : Int), .int .i64 z] w fun e w' => e = .returned (.bool true) ∧ Ext w w' := by
  have HAW := Lib.hid (awake31_any w hm hE)
  have HM := Lib.hid hm
  have HE := Lib.hid hE
  have HM5 := Lib.hid (fun W => mod_any W n 5 hn1 hn2 (by decide) (by decide))
  have HZ5 := Lib.hid (fun W => mod_any W z 5 hz1 hz2 (by decide) (by decide))
  have hm1 := Int.emod_nonneg n (show (5 : Int) ≠ 0 by decide)
  have hm2 := Int.emod_lt_of_pos n (show (0 : Int) < 5 by decide)
  have hp1 := Int.emod_nonneg z (show (5 : Int) ≠ 0 by decide)
  have hp2 := Int.emod_lt_of_pos z (show (0 : Int) < 5 by decide)
  generalize n % 5 = m at *
  generalize z % 5 = p at *
  obtain ⟨m, rfl⟩ := Int.eq_ofNat_of_zero_le hm1
  obtain ⟨p, rfl⟩ := Int.eq_ofNat_of_zero_le hp1
  obtain ⟨sz, hsz⟩ : ∃ sz : Nat, sz = 398 + m := ⟨_, rfl⟩
  have hmk := run_make8 sz (by omega)
  rw [show ((sz : Nat) : Int) = 398 + (m : Int) by omega] at hmk
  have hsz4 : sz ≤ 402 := by omega
  have hsz3 : 398 ≤ sz := by omega
  have hp4 : p ≤ 4 := by omega
  clear hm hE hm1 hp1 hsz
  go_enter Tryd.func3, Tryd.ntmps3
  go_wp2_with fail
  refine HAW.out.mono ?_
  rintro e w1 ⟨rfl, hx1⟩
  have HX1 := Lib.hid hx1
  clear hx1
  go_wp2_with fail
  refine (HM5.out _).mono ?_
  rintro e w2 ⟨rfl, rfl⟩
  go_wp2_with fail
  clear hmk
  have hg := HX1.out.size
  have HB0 := Lib.hid (Blk.new w1 5 (cells8 (List.replicate sz 0)))
  have HX2 := Lib.hid (HX1.out.alloc (.cells (cells8 (List.replicate sz 0)) 5))
  generalize w1.heap.size = gb at *
  go_loopw [25] (fun s25 wr => ∃ (k : Nat) (bs : List UInt8), k ≤ sz ∧ s25 = .int .i64 (k : Int) ∧ bs.length = sz ∧ Blk wr gb 5 (cells8 bs) ∧ Ext w wr) (fun s25 _ => sz - (intOf s25).toNat)
  case atStart => exact ⟨0, List.replicate sz 0, Nat.zero_le _, rfl, by simp, HB0.out, HX2.out⟩
  case round =>
    obtain ⟨k, bs, hk, rfl, hbl, hb, hx⟩ := hrel
    have HBL := Lib.hid hbl
    have HX := Lib.hid hx
    by_cases hlt : k < sz
    · have hst := hb.cell k
      have hfz := hb.frozen k
      rw [get_cells8 _ _ (by omega)] at hst
      generalize bs[k] = b0 at hst
      have hset := hb.set_ k (d8 113)
      rw [set_cells8] at hset
      have HSET := Lib.hid hset
      have HXS := Lib.hid (hx.setCell (p := ⟨gb, k, none⟩) hg (d8 113))
      have hd113 : d8 113 = .int .u8 113 := rfl
      rw [hd113] at HSET HXS
      clear hb hx hset hbl hd113
      simp only [d8] at hst
      go_wp2_with fail
      go_roundw
      case rel => exact ⟨k + 1, _, by omega, by go_num, by simp [HBL.out], HSET.out, HXS.out⟩
      case measure => simp [intOf]; omega
    · obtain rfl : k = sz := by omega
      obtain ⟨h, hh⟩ : ∃ h, h = k / 2 := ⟨_, rfl⟩
      have hhk : h < k := by omega
      have hq1 : (k : Int) / 2 = (h : Int) := by omega
      have hq2 : Int.tdiv (k : Int) 2 = (h : Int) := by rw [Int.tdiv_eq_ediv_of_nonneg (by omega)]; exact hq1
      have hst := hb.cell h
      have hfz := hb.frozen h
      rw [get_cells8 _ _ (by omega)] at hst
      generalize bs[h] = b0 at hst
      have hset := hb.set_ h (d8 x)
      rw [set_cells8] at hset
      have hbl2 : (bs.set h x).length = k := by rw [List.length_set]; exact hbl
      have HXS := Lib.hid (hx.setCell (p := ⟨gb, h, none⟩) hg (d8 x))
      generalize bs.set h x = cs at *
      have HSET := Lib.hid hset
      have harr := Arr8.block hset (by omega)
      rw [hbl2] at harr
      have HARR := Lib.hid harr
      have hst2 := run_string8 harr
      have hd8 : d8 x = .int .u8 (x.toNat : Int) := rfl
      rw [hd8] at HXS hst2 HARR HSET
      have hadd : ∀ W : World, (binOp .add 9 (.string ⟨#[108, 101, 116, 32, 120, 32, 61, 32]⟩) (str cs)).run Tryd.prog W = .ok (str ([108, 101, 116, 32, 120, 32, 61, 32] ++ cs)) W := fun W => run_add_str [108, 101, 116, 32, 120, 32, 61, 32] cs (by rw [hbl2]; simp; omega) W
      obtain ⟨l0, hl0⟩ : ∃ l0, l0 = [108, 101, 116, 32, 120, 32, 61, 32] ++ cs := ⟨_, rfl⟩
      have hll : l0.length = 8 + k := by rw [hl0, List.length_append, hbl2]; rfl
      have hi1 : (h : Int) < (k : Int) := by omega
      rw [← hl0] at hadd
      clear hb hx hset harr hbl hl0 hd8 hh
      simp only [d8] at hst
      go_upto_region 10 with fail
      generalize wr.setCell ⟨gb, h, none⟩ (.int .u8 (x.toNat : Int)) = wz at *
      clear hst hfz
      go_wp2_with fail
      go_loopw [9] (fun s9 wq => ∃ ln : List UInt8, ln.length ≤ 600 ∧ s9 = str ln ∧ wz = wq) (fun s9 _ => 700 - strLen s9)
      case atStart => exact ⟨l0, by omega, rfl, rfl⟩
      case round =>
        obtain ⟨ln, hln, rfl, rfl⟩ := hrel
        have hw1 : IntKind.i64.wrap (498 + (p : Int)) = 498 + (p : Int) := IntWalk.i64_in _ (by omega)
        have hlp : (ln.length : Int) < 498 + (p : Int) ∨ ¬ (ln.length : Int) < 498 + (p : Int) := by omega
        rcases hlp with hlp | hlp
        · have hadd2 : ∀ W : World, (binOp .add 9 (str ln) (.string ⟨#[32]⟩)).run Tryd.prog W = .ok (str (ln ++ [32])) W := fun W => run_add_str ln [32] (by simp; omega) W
          go_wp2_with fail
          refine (HZ5.out _).mono ?_
          rintro e w2 ⟨rfl, rfl⟩
          go_wp2_with fail
          go_roundw
          case rel => exact ⟨ln ++ [32], by simp; omega, rfl, trivial⟩
          case measure => rw [strLen_str, strLen_str]; simp; omega
        · go_wp2_with fail
          refine (HZ5.out _).mono ?_
          rintro e w2 ⟨rfl, rfl⟩
          obtain ⟨sv, hsv⟩ : ∃ sv : List (List UInt8), sv = [l0, ln] := ⟨_, rfl⟩
          have hn2' : sv.length = 2 := by rw [hsv]; rfl
          have HSV : Hid (∀ t ∈ sv, t.length ≤ 1000) := Lib.hid (by
            rw [hsv]
            intro t ht
            rcases List.mem_cons.1 ht with rfl | ht
            · omega
            · rw [List.mem_singleton] at ht
              subst ht
              omega)
          have hob := OwnS.block (B := wz.heap.size) (ls := [l0, ln]) (Blk.new wz 9 _) (Nat.le_refl _) (by simp)
          have HRD : Hid (ArrS (wz.alloc (.cells #[str l0, str ln] 9)) (.slice (some ⟨wz.heap.size, 0, none⟩) 2 2) sv) := Lib.hid (by rw [hsv]; exact hob.arr)
          have HXW := Lib.hid (HXS.out.alloc (.cells #[str l0, str ln] 9))
          have HAR2 := Lib.hid (HARR.out.ext ((Ext.refl wz).alloc (.cells #[str l0, str ln] 9)))
          clear hsv hob hln
          go_wp2_with fail
          clear hadd hst2
          generalize (wz.alloc (.cells #[str l0, str ln] 9)) = wy at *
          generalize wz.heap.size = gz at *
          go_loopw [55] (fun s55 wq => ∃ i : Nat, i ≤ 2 ∧ s55 = .int .i64 (i : Int) ∧ Ext wy wq) (fun s55 _ => 2 - (intOf s55).toNat)
          case atStart => exact ⟨0, by omega, rfl, Ext.refl _⟩
          case round =>
            obtain ⟨i, hi, rfl, hext⟩ := hrel
            have HX7 := Lib.hid (HXW.out.trans hext)
            have HEX := Lib.hid hext
            by_cases hlt : i < 2
            · obtain ⟨A', c', hv, _, _, hcell⟩ := (HRD.out.ext hext).open
              injection hv with hv hv1 hv2
              clear hv1 hv2
              obtain ⟨b, o, hbo, _, hcells⟩ := hcell (by rw [hn2']; omega)
              clear hcell
              rw [hbo] at hv
              injection hv with hv
              injection hv with hv1 hv2 hv3
              subst hv1
              subst hv2
              clear hv3
              have hx := hcells i (by rw [hn2']; exact hlt)
              rw [Nat.zero_add] at hx
              clear hcells hbo hext
              have hyl := HSV.out _ (List.getElem_mem (show i < sv.length by rw [hn2']; exact hlt))
              generalize sv[i] = y at *
              have hki : (i : Int) < 2 := by omega
              have K1 := Lib.hid (fun W hx => cparse_any W y (by omega) (HM.out.ext (w' := W) hx) (HE.out.ext hx))
              have K2 := Lib.hid (fun W => rparse31_any W y (by omega))
              rw [← line_same] at K2
              generalize (lineC y).2 = cd at *
              generalize cmdOf (lineC y).1 = cm at *
              obtain ⟨co, cn, cot, ct, cnn⟩ := cm
              unfold cmdV at K1 K2
              simp only at K1 K2
              obtain ⟨nb, hnb⟩ : ∃ nb, str cn = .string nb := ⟨_, rfl⟩
              obtain ⟨ob, hob⟩ : ∃ nb, str cot = .string nb := ⟨_, rfl⟩
              obtain ⟨tb, htb⟩ : ∃ nb, str ct = .string nb := ⟨_, rfl⟩
              rw [hnb, hob, htb] at K1 K2
              clear hnb hob htb hyl
              have q2 : ((cd : Int) != (cd : Int)) = false := by simp
              go_wp2_with fail
              refine (K1.out _ HX7.out).mono ?_
              rintro e w5 ⟨rfl, hx5⟩
              have HE5 := Lib.hid (HEX.out.trans hx5)
              clear hx5
              have HB5 := Lib.hid (Blk.new w5 27 #[.int .i64 co, .string nb, .string ob, .string tb, .int .i64 cnn])
              have HE6 := Lib.hid (HE5.out.alloc (.cells #[.int .i64 co, .string nb, .string ob, .string tb, .int .i64 cnn] 27))
              go_wp2_with fail
              generalize w5.alloc (.cells #[.int .i64 co, .string nb, .string ob, .string tb, .int .i64 cnn] 27) = w6 at *
              generalize w5.heap.size = g5 at *
              refine (K2.out _).mono ?_
              rintro e w7 ⟨rfl, hx7⟩
              have HE7 := Lib.hid (HE6.out.trans hx7)
              have hb7 := HB5.out.ext hx7
              have b0 := hb7.cell 0
              have b1 := hb7.cell 1
              have b2 := hb7.cell 2
              have b3 := hb7.cell 3
              have b4 := hb7.cell 4
              have bz := hb7.lt
              have HE8 := Lib.hid (HE7.out.alloc (.cells #[.int .i64 co, .string nb, .string ob, .string tb, .int .i64 cnn] 27))
              clear hx7 hb7
              go_wp2_with fail
              go_roundw
              case rel => exact ⟨i + 1, by omega, by go_num, HE8.out⟩
              case measure => simp [intOf]; omega
            · obtain rfl : i = 2 := by omega
              have hst3 := run_string8 (HAR2.out.ext hext)
              have hcl : cs.length ≤ 1000000 := by omega
              have V1 : Hid (∀ W : World, Calls Tryd.prog 9 #[.agg #[.int .i64 1, .string ⟨#[120]⟩, .string ⟨#[]⟩, str cs, .int .i64 0]] W fun e w' => e = .returned (.bool (validC ⟨1, [120], [], cs, 0⟩)) ∧ Ext W w') := Lib.hid (fun W => cvalid_any W ⟨1, [120], [], cs, 0⟩ (by simp) (by simp) (by simp only; omega))
              have V2 : Hid (∀ W : World, Calls Tryd.prog 10 #[.agg #[.int .i64 1, .string ⟨#[120]⟩, .string ⟨#[]⟩, str cs, .int .i64 0]] W fun e w' => e = .returned (.bool (validC ⟨1, [120], [], cs, 0⟩)) ∧ Ext W w') := Lib.hid (fun W => rvalid31_any W ⟨1, [120], [], cs, 0⟩ (by simp) (by simp) hcl)
              generalize validC ⟨1, [120], [], cs, 0⟩ = vb at *
              clear hext hcl
              have HD := Lib.hid (Blk.new wr 27 #[.int .i64 1, .string ⟨#[120]⟩, .string ⟨#[]⟩, str cs, .int .i64 0])
              have HXD := Lib.hid (HX7.out.alloc (.cells #[.int .i64 1, .string ⟨#[120]⟩, .string ⟨#[]⟩, str cs, .int .i64 0] 27))
              go_upto_region 22 with fail
              generalize wr.alloc (.cells #[.int .i64 1, .string ⟨#[120]⟩, .string ⟨#[]⟩, str cs, .int .i64 0] 27) = wd at *
              generalize wr.heap.size = gd at *
              have d0 := HD.out.cell 0
              have d1 := HD.out.cell 1
              have d2 := HD.out.cell 2
              have d3 := HD.out.cell 3
              have d4 := HD.out.cell 4
              have dz := HD.out.lt
              clear hst3
              go_region_held3 (fun W => Ext wd W ∧ W.cell? ⟨gd, 0, none⟩ = some (.int .i64 1) ∧ W.cell? ⟨gd, 1, none⟩ = some (.string ⟨#[120]⟩) ∧ W.cell? ⟨gd, 2, none⟩ = some (.string ⟨#[]⟩) ∧ W.cell? ⟨gd, 3, none⟩ = some (str cs) ∧ W.cell? ⟨gd, 4, none⟩ = some (.int .i64 0))
                (first | (exact kept5_drew ⟨d0, d1, d2, d3, d4⟩) | (exact kept5 (by assumption) (by assumption)))
                (first
                  | (go_at_call 9; refine (V1.out _).mono ?_; rintro e w8 ⟨rfl, hx8⟩)
                  | (go_at_call 10; refine (V2.out _).mono ?_; rintro e w9 ⟨rfl, hx9⟩))
              all_goals
                go_wp2_with fail
                go_ret
                exact ⟨rfl, HXD.out.trans (And.left (by assumption))⟩
end Big
end Go.Proofs.YtoehdoghghpmjaaDoor
/- The frame round a law's walk: the arguments opened; behind the call they read as they did. -/
namespace Go.Proofs.YtoehdoghghpmjaaDoor
open Go.ChangeShapes Go.WideShapes Go.ChangeAt Go.RowKit

section
variable {H : Type} {enc : TypeId × Value → H} {P : Program}
theorem trodAll_stays (hl : laidOutB P = true) {W W' : World} (hb : Big.Ext W W') : ∀ (ts : List TypeId) (vs : List Value) (ds : List (DataW H)) (ps : List MemPlace),
    (∀ t ∈ ts, P.readableRec t = true ∧ t < P.types.size) → DataW.TrodAll enc P W 0 (fun _ => true) true ts vs ds ps → (∀ x ∈ ps, x.block < W.heap.size) →
    DataW.TrodAll enc P W' 0 (fun b => decide (b < W.heap.size)) true ts vs ds ps
  | [], vs, ds, ps, _, h, _ => by
    obtain ⟨rfl, rfl, rfl⟩ := trodAll_nil h
    exact trodAll_mk0
  | t :: ts, vs, ds, ps, ht, h, hlt => by
    obtain ⟨v, vs', d, ds', p, q, rfl, rfl, rfl, h1, h2⟩ := trodAll_cons h
    exact trodAll_cons_mk (Below.trod hl (ht t (by simp)).1 (ht t (by simp)).2 h1 hb (fun x hx => hlt x (List.mem_append_left _ hx)))
      (trodAll_stays hl hb ts vs' ds' q (fun t' h' => ht t' (by simp [h'])) h2 (fun x hx => hlt x (List.mem_append_right _ hx)))

/-- What the row asks of a law that returned true and left what was there. -/
theorem post_true {f : Func} {s : ChangeSpec} {W W' : World} {args : Array Value} {ds gs : List (DataW H)} {before : List MemPlace} {tb : TypeId} (hl : laidOutB P = true)
    (hts : (f.params.toList.all fun t => P.readableRec t && decide (t < P.types.size)) = true) (hv : s.vars = []) (hr : f.resultTypes = #[tb]) (htb : P.underlying tb = some .bool)
    (hW : DataW.Whole enc P f.params.toList s.vars false W args.toList ds gs before) (hfn : s.fn H ds = { results := [.lit (.bool true)], args := ds }) (hb : Big.Ext W W') :
    s.post enc P f false true false false W args (.bool true) W' := by
  have hlt := hW.lt
  have hW' := hW
  obtain ⟨p, q, hA, hV, rfl, hfz, hnd⟩ := hW
  rw [hv] at hV
  obtain ⟨rfl, rfl⟩ := trodVars_none hV
  have hfn' : s.fn H (ds ++ []) = { results := [.lit (.bool true)], args := ds } := by rw [List.append_nil]; exact hfn
  refine ⟨ds, [], p ++ [], [], p, [], hW', ?_, ?_, ?_, hb.frame _, fun h => by cases h⟩
  · rw [hfn', hr]
    exact trodAll_mk1 (shut_bool htb _)
  · rw [hfn']
    exact trodAll_stays hl hb _ _ _ _ (fun t ht => by
      have := List.all_eq_true.1 hts t ht
      simpa using this) hA (fun x hx => hlt x (by simpa using hx))
  · rw [hfn', hv]
    rfl
end

/-- A law under its row's conditions, with the form of the world at its beginning. -/
theorem handed_and_shaped {H : Type} {enc : TypeId × Value → H} {a : Assume} {C : Checked} {os : Os} {f : FuncId} {fn : Func} {s : ChangeSpec} {conds : List PathCond} {apart fresh handsOn again : Bool} {X : World → Array Value → Prop}
    (hX : ∀ (w w' : World) (args : Array Value), w.heap = w'.heap → X w args → X w' args)
    (own : ownKnob C.prog.godebug = none) (started : os.Started) (noInit : C.prog.inits.idxOf? f = none) (hfn : C.prog.funcs[f]? = some fn)
    (witness : ∃ (w : World) (tape : Tape) (i : Input), w.os = os ∧ (w.forCall tape i).Shaped C.prog ∧ i.vars = [] ∧ Input.okWide C.prog (w.forCall tape i) .any w.heap.size f i ∧
      ((s.pre enc C.prog fn conds apart (w.forCall tape i).memory i.args ∧ X (w.forCall tape i).memory i.args) ∧ sizedMet enc C.prog fn (OpenSpec.ofChange s) apart (w.forCall tape i).memory i.args) ∧ a.holds C.prog (lone (Frame.enter C.prog f i.args .normal) [] (w.forCall tape i)))
    (contract : ∀ (W : World) (base : Nat) (args : Array Value) (ds gs : List (DataW H)) (before : List MemPlace),
      (∀ (j : Nat) t v, fn.params[j]? = some t → args[j]? = some v → Value.okWide C.prog W .any base t v) →
      DataW.Whole enc C.prog fn.params.toList s.vars apart W args.toList ds gs before →
      (DataW.weightsEach C.prog (fn.params.toList ++ s.plain.varTypes C.prog) (ds ++ gs)).all (· ≤ reachBytes) = true → X W args → W.ShapedOpen C.prog →
      Calls C.prog f args W fun e W' => ∃ v, e = .returned v ∧ s.post enc C.prog fn apart fresh handsOn again W args v W') :
    ReturnsInHanded a C os f .any (fun w args => (s.pre enc C.prog fn conds apart w args ∧ X w args) ∧ sizedMet enc C.prog fn (OpenSpec.ofChange s) apart w args) (s.post enc C.prog fn apart fresh handsOn again) := by
  refine returnsInHanded_of_calls own started noInit witness ?_
  intro w tape i _ hsh _ hok hpre hholds
  obtain ⟨_, _, _, fn', hfn', _, _, _, _, hval⟩ := hok
  have e : fn' = fn := Option.some.inj (hfn'.symm.trans hfn)
  subst e
  obtain ⟨⟨⟨ds, gs, before, hw, hc⟩, hx⟩, hz⟩ := hpre
  have hw' := DataW.Whole.of_heap (w' := w.forCall tape i) (by rfl) hw
  refine (contract (w.forCall tape i) w.heap.size i.args ds gs before hval hw' (hz.weights hw) (hX _ _ _ (by rfl) hx) hsh).mono fun e W' ⟨v, he, hp⟩ => ?_
  subst he
  exact ChangeSpec.post_blind hp

theorem laid_out : laidOutB Tryd.prog = true := by kernel_rfl
theorem own : ownKnob Tryd.prog.godebug = none := by kernel_rfl

section
variable {P : Program} {W : World}
/-- One of several variables that a row lists. -/
theorem laidVars_at : ∀ (i : Nat) (l : List (String × DataW Unit)) (ps : List MemPlace) (n : String) (d : DataW Unit), DataW.LaidVars P W l ps → l[i]? = some (n, d) →
    ∃ g t cs f p, P.globalNamed n = some g ∧ (P.globals[g]?).map (·.type) = some t ∧ W.var? P n = some cs ∧ DataW.trod (fun _ => ()) P W 0 (fun _ => true) false f t cs.toList = some (d, p)
  | i, [], ps, n, d, _, hn => by simp at hn
  | 0, x :: l, ps, n, d, h, hn => by
    simp at hn
    subst hn
    obtain ⟨g, t, cs, f, p, q, h1, h2, h3, h4, _, _⟩ := h
    exact ⟨g, t, cs, f, p, h1, h2, h3, h4⟩
  | i + 1, x :: l, ps, n, d, h, hn => by
    obtain ⟨g, t, cs, f, p, q, _, _, _, _, hs, _⟩ := h
    exact laidVars_at i l q n d hs (by simpa using hn)
theorem laid_at (i : Nat) {l : List (String × DataW Unit)} {n : String} {d : DataW Unit} (h : laidMetH P l W) (hp : (l.all fun x => x.2.handleName?.isNone) = true) (hn : l[i]? = some (n, d)) :
    ∃ g t cs f p, P.globalNamed n = some g ∧ (P.globals[g]?).map (·.type) = some t ∧ W.var? P n = some cs ∧ DataW.trod (fun _ => ()) P W 0 (fun _ => true) false f t cs.toList = some (d, p) := by
  rw [MakeChecks.laidMetH_plain _ _ _ hp] at h
  obtain ⟨ps, hv, _⟩ := h
  exact laidVars_at i l ps n d hv hn
end

section
variable {H : Type} {enc : TypeId × Value → H} {W : World} {fuel : Nat} {v : Value} {y : DataW H × List MemPlace}
theorem cellsOf_u32 : Tryd.prog.cellsOf 80 = 1 := by kernel_rfl
/-- A slice of 32-bit digits that came in. -/
theorem arr_of_trod (h : DataW.trod enc Tryd.prog W 0 (fun _ => true) true fuel 45 [v] = some y) : ∃ xs, Big.Arr W v xs := by
  rcases open_ints Tryd.underlying45 Tryd.underlying80 cellsOf_u32 h with ⟨hv, _⟩ | ⟨a, len, cap, zs, hv, _, hl, hm, hz, _, hc, hw⟩
  · injection hv with hv
    subst hv
    exact ⟨[], Big.Arr.none_ W⟩
  · injection hv with hv
    subst hv
    simp only [if_true] at hz
    refine ⟨(zs.take len).map Int.toNat, ?_⟩
    have hlen : ((zs.take len).map Int.toNat).length = len := by simp; omega
    have hok : Big.Ok ((zs.take len).map Int.toNat) := fun x hx => by
      obtain ⟨n, hn, rfl⟩ := List.mem_map.1 hx
      have := bounds_u32 (hw n (List.mem_of_mem_take hn))
      omega
    have key := Big.Arr.mk (w := W) (A := some a) (c := cap) hok (by rw [hlen]; exact hl) hm (fun hp => by
      rw [hlen] at hp ⊢
      obtain ⟨b, off, rfl, hcell⟩ := ints_at hc (by omega)
      have h0 := hcell 0 (by omega)
      refine ⟨b, off, rfl, World.block_lt_of_cell? W _ h0, fun j hj => ?_⟩
      rw [hcell j (by omega)]
      have hj2 : j < zs.length := by omega
      have hb := bounds_u32 (hw zs[j] (List.getElem_mem hj2))
      have e1 : zs.getD j 0 = zs[j] := by rw [List.getD_eq_getElem?_getD, List.getElem?_eq_getElem hj2]; rfl
      have e2 : ((zs.take len).map Int.toNat).getD j 0 = zs[j].toNat := by
        rw [List.getD_eq_getElem?_getD, List.getElem?_map, List.getElem?_take_of_lt hj, List.getElem?_eq_getElem hj2]; rfl
      rw [e1, e2]
      unfold Big.d32
      rw [Int.toNat_of_nonneg hb.1])
    rw [hlen] at key
    exact key
theorem bool_of_trod (h : DataW.trod enc Tryd.prog W 0 (fun _ => true) true fuel 4 [v] = some y) : ∃ b, v = .bool b := by
  obtain ⟨b, hb, _⟩ := DataW.trod_bool Tryd.underlying4 h
  injection hb with hb
  exact ⟨b, hb⟩
end
section
variable {H : Type} {enc : TypeId × Value → H} {W : World} {v : Value} {d : DataW H} {p : List MemPlace} {r : Reach} {b0 : Nat}
set_option maxRecDepth 100000 in
theorem open_u32s (hv : Value.okWide Tryd.prog W r b0 45 v) (h : DataW.Trod enc Tryd.prog W 0 (fun _ => true) true 45 v d p) : ∃ xs, Big.Arr W v xs := by
  obtain ⟨a, len, cap, rfl⟩ := okWide_slice Tryd.underlying45 hv
  obtain ⟨fuel, hf⟩ := h
  obtain ⟨xs, hxs⟩ := arr_of_trod (by simpa [Value.cells] using hf)
  exact ⟨xs, hxs⟩
end
theorem byte_of_wf {z : Int} (w : (Lit.int .u8 z).wf = true) : ∃ d : UInt8, z = (d.toNat : Int) := by
  have h := bounds_u8 w
  refine ⟨UInt8.ofNat z.toNat, ?_⟩
  have e : (UInt8.ofNat z.toNat).toNat = z.toNat % 2 ^ 8 := UInt8.toNat_ofNat'
  rw [e, Nat.mod_eq_of_lt (by omega)]
  omega
theorem u64_of_wf {z : Int} (w : (Lit.int .u64 z).wf = true) : ∃ n : Nat, n < 18446744073709551616 ∧ z = (n : Int) := by
  have h := bounds_u64 w
  exact ⟨z.toNat, by omega, by omega⟩
theorem str_of_bytes {s : ByteArray} (h : s.size ≤ maxLen) : ∃ l : List UInt8, l.length ≤ maxLen ∧ s = ⟨l.toArray⟩ := by
  refine ⟨s.data.toList, by simpa using h, ?_⟩
  apply ByteArray.ext
  simp
end Go.Proofs.YtoehdoghghpmjaaDoor
/- What the condition on the listed variables gives the walks of commands. -/
namespace Go.Proofs.YtoehdoghghpmjaaDoor
open Go.ChangeShapes Go.WideShapes Go.ChangeAt Go.RowKit
theorem gSynC : Tryd.prog.globalNamed "strconv.ErrSyntax" = some 3 := by kernel_rfl
theorem tSynC : (Tryd.prog.globals[3]?).map (·.type) = some 76 := by kernel_rfl
theorem gRanC : Tryd.prog.globalNamed "strconv.ErrRange" = some 4 := by kernel_rfl
theorem tRanC : (Tryd.prog.globals[4]?).map (·.type) = some 76 := by kernel_rfl
theorem gPow : Tryd.prog.globalNamed "internal/strconv.uint64pow10" = some 5 := by kernel_rfl
theorem tPow : (Tryd.prog.globals[5]?).map (·.type) = some 118 := by kernel_rfl
theorem cellsPow : Tryd.prog.cellsOf 118 = 20 := by kernel_rfl
theorem cellsU64 : Tryd.prog.cellsOf 67 = 1 := by kernel_rfl
theorem cmdEnv_of_laid {W : World} {l : List (String × DataW Unit)} (i j k : Nat) (h : laidMetH Tryd.prog l W) (hp : (l.all fun x => x.2.handleName?.isNone) = true) (hi : l[i]? = some ("strconv.ErrRange", Rows.laid_strconv_ErrRange)) (hj : l[j]? = some ("strconv.ErrSyntax", Rows.laid_strconv_ErrSyntax)) (hk : l[k]? = some ("internal/strconv.uint64pow10", Rows.laid_internal_strconv_uint64pow10)) : Big.CmdEnv W := by
  have key : ∀ (n : String) (g : Nat) (d : DataW Unit) (k : Nat) (nm : String) (x : DataW Unit), d = .iface nm x → Tryd.prog.globalNamed n = some g → (Tryd.prog.globals[g]?).map (·.type) = some 76 → l[k]? = some (n, d) → Big.ErrC W g := by
    rintro n g d k nm x rfl hg ht hk
    obtain ⟨g1, t1, cs1, f1, p1, hg1, ht1, hv1, hd1⟩ := laid_at k h hp hk
    obtain rfl := Option.some.inj (hg.symm.trans hg1)
    obtain rfl := Option.some.inj (ht.symm.trans ht1)
    obtain ⟨_, u, v, hcs, _, _⟩ := iface_of_trod Tryd.underlying76 hd1
    have hc := World.var?_cell hg1 hv1 0
    have h0 : cs1[0]? = some (.iface u v) := by
      rw [← Array.getElem?_toList, hcs]
      rfl
    rw [h0] at hc
    exact ⟨_, hc, .inr ⟨u, v, rfl⟩⟩
  refine ⟨key _ _ _ j _ _ rfl gSynC tSynC hj, key _ _ _ i _ _ rfl gRanC tRanC hi, ?_⟩
  obtain ⟨g1, t1, cs1, f1, p1, hg1, ht1, hv1, hd1⟩ := laid_at k h hp hk
  obtain rfl := Option.some.inj (gPow.symm.trans hg1)
  obtain rfl := Option.some.inj (tPow.symm.trans ht1)
  have hcs := Lib.cells_of_tab (zs := Lib.pow10Tab) (k := .u64) Tryd.underlying118 Tryd.underlying67 cellsU64 cellsPow (show DataW.trod _ Tryd.prog W 0 _ false f1 118 cs1.toList = some (Lib.tabData .u64 Lib.pow10Tab, p1) from hd1)
  show W.var? Tryd.prog "internal/strconv.uint64pow10" = some _
  rw [hv1]
  congr 1
  apply Array.ext'
  rw [hcs]
end Go.Proofs.YtoehdoghghpmjaaDoor
