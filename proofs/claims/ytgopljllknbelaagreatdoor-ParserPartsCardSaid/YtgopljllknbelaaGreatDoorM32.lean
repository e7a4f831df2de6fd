import Derived.Test.YtgopljllknbelaaGreatDoorM23
import Derived.Test.YtgopljllknbelaaGreatDoorM20
import Derived.Test.YtgopljllknbelaaGreatDoorM25
import Derived.Test.YtgopljllknbelaaGreatDoorM10
import Derived.Test.YtgopljllknbelaaGreatDoorM31
import Derived.Test.YtgopljllknbelaaGreatDoorRows
import Derived.Test.YtgopljllknbelaaGreatDoorM4
import Derived.ProofKit
import Derived.LaidMore
import Derived.OpenShut
import Derived.Stop.Joined
import Derived.Lib.LaidTab
import Derived.Carry
import Derived.Handed
import Derived.HandedShaped
import Derived.Deep.Strs
import Derived.ChangeMaps5
import Derived.Lib.SmallJoins
import Derived.Test.YtgopljllknbelaaGreatDoorM7
/- LexerScans. -/
namespace Go.Proofs.YtgopljllknbelaaGreatDoor
namespace Big
open Go.RowKit
theorem nodeT_ne (e : Ex) (h : e.Good) : nodeT fmtI e ≠ [] := by
  cases e with
  | leaf k t =>
    unfold nodeT
    rcases h with ⟨rfl, h, _⟩ | ⟨rfl, h⟩ | ⟨rfl | rfl, _⟩
    · intro he
      have he2 : t = [] := he
      rw [he2] at h
      revert h
      decide
    · intro he
      have he2 : t = [] := he
      rw [he2] at h
      revert h
      decide
    · simp
    · simp
  | un k n x =>
    unfold nodeT
    split
    · simp
    · split <;> simp
  | bin k x y =>
    unfold nodeT
    have := signT_len k
    intro he
    have h2 := congrArg List.length he
    simp at h2
    have := h2.2.1
    rw [this] at *
    simp_all
theorem wayT_pos (m : Int) (s : List UInt8) (h : s ≠ []) : 0 < (wayT m s).length := by
  unfold wayT
  split
  · simp
  · split
    · simp
    · exact List.length_pos_iff.2 h
end Big
end Go.Proofs.YtgopljllknbelaaGreatDoor
/- ParserParts. Printed by a program. -/
namespace Go.Proofs.YtgopljllknbelaaGreatDoor
namespace Big
open Go.RowKit
theorem szAt_all (e : Ex) : szAt e ((e.size : Int) - 1) = e.size := by
  have hp := e.size_pos
  have hl := szE_last e [] (e.size - 1) (by simp; omega)
  rw [List.nil_append] at hl
  unfold szAt
  rw [if_pos (by omega), show ((e.size : Int) - 1).toNat = e.size - 1 by omega]
  exact hl
set_option maxHeartbeats 4000000 in
set_option maxRecDepth 100000 in
theorem parserParts_any (w : World) (v : Value) (l : List Int) (i : Int) (h : ArrI w v l) (hi1 : -9223372036854775808 ≤ i) (hi2 : i ≤ 9223372036854775807) (hm : MaxV w) :
    Calls Tryz.prog 3 #[v, .int .i64 i] w fun e w' => e = .returned (.bool true) ∧ Ext w w' := by
  have HAW := Lib.hid (awake19_any w hm)
  have HM := Lib.hid hm
  clear hm
  have HL := Lib.hid h
  have HLT := Lib.hid (fun W hx => light_any W v l (HL.out.ext hx))
  obtain ⟨A0, c0, rfl, _⟩ := h.open
  clear h
  by_cases hlt : 120 < l.length
  · have hd : decide (l.length ≤ 120) = false := decide_eq_false (by omega)
    rw [hd] at HLT
    clear HL hlt hd
    go_enter Tryz.func3, Tryz.ntmps3
    go_wp2_with fail
    refine HAW.out.mono ?_
    rintro e w1 ⟨rfl, hx1⟩
    have HX1 := Lib.hid hx1
    clear hx1
    go_wp2_with fail
    refine (HLT.out _ HX1.out).mono ?_
    rintro e w2 ⟨rfl, rfl⟩
    go_wp2_with fail
    go_ret
    exact ⟨rfl, HX1.out⟩
  have hd : decide (l.length ≤ 120) = true := decide_eq_true (by omega)
  rw [hd] at HLT
  have hll : l.length ≤ 120 := by omega
  clear hlt hd
  go_enter Tryz.func3, Tryz.ntmps3
  go_wp2_with fail
  refine HAW.out.mono ?_
  rintro e w1 ⟨rfl, hx1⟩
  have HX1 := Lib.hid hx1
  clear hx1
  go_wp2_with fail
  refine (HLT.out _ HX1.out).mono ?_
  rintro e w2 ⟨rfl, rfl⟩
  go_wp2_with fail
  refine (new_any _ _ l (HL.out.ext HX1.out) (by omega)).mono ?_
  rintro e w2 ⟨rfl, ht2, hx2, hs2⟩
  rw [← hs2] at ht2
  have HX2 := Lib.hid (HX1.out.trans hx2)
  have hg2 : w.heap.size ≤ w1.heap.size := HX1.out.size
  have hg3 : w.heap.size ≤ w2.heap.size := HX2.out.size
  have HEX := Lib.hid (expr_any 6 w1.heap.size w2 _ l 0 false ht2 (by decide) (by decide))
  generalize w1.heap.size = g at *
  clear ht2 hx2 hs2 HLT
  go_wp2_with fail
  refine HEX.out.mono ?_
  rintro e w3 ⟨x, v3, a3, rfl, hgd, hsz, hdp, hown, htp, hk⟩
  have hsz2 : x.size ≤ 63 := by have : 2 ^ 6 ≤ 64 := (by decide); omega
  have hdp2 : x.depth ≤ 6 := hdp
  have HRX : Hid (RNd w3 v3 (flat 0 x)) := Lib.hid (by rw [List.nil_append] at hown; exact hown.read)
  have HX3 := Lib.hid (hk.to_ext HX2.out hg3 hg2)
  clear hsz hdp hown htp hk HEX hg2 hg3
  have HPS := Lib.hid (fun W j h hj1 hj2 hx => psizeN_any W v3 x j h hgd (by omega) (HM.out.ext (w' := W) hx) hj1 hj2)
  have HRS := Lib.hid (fun W j h hj1 hj2 => rsizeN_any W v3 x j h hgd (by omega) hj1 hj2)
  have HPN := Lib.hid (fun W h hx => pnest_any W v3 x h hgd (by omega) (HM.out.ext (w' := W) hx))
  have HRN := Lib.hid (fun W h => rnest_any W v3 x h hgd (by omega))
  have HPM := Lib.hid (fun W h => pnames_any W v3 (flat 0 x) h (by rw [flat_len]; omega) (flat_text x hgd 0))
  have HRM := Lib.hid (fun W h => rnames_any W v3 (flat 0 x) h (by rw [flat_len]; omega) (flat_text x hgd 0))
  have hlen := flat_len x 0
  have hal := szAt_all x
  have hpos := x.size_pos
  have hsl : (sortS (namesOf (flat 0 x))).length ≤ 63 := by
    have h1 := sortS_len (namesOf (flat 0 x))
    have h2 := namesOf_len (flat 0 x)
    omega
  have HAL := Lib.hid hal
  have HSZ : Hid (∀ j : Int, szAt x j ≤ 1000000) := Lib.hid (fun j => by
    unfold szAt
    split
    · have := (szAt_le (e := x) (k := j.toNat) (by omega)).2
      omega
    · omega)
  obtain ⟨S3, hS3⟩ : ∃ S3, sortS (namesOf (flat 0 x)) = S3 := ⟨_, rfl⟩
  rw [hS3] at HPM HRM hsl
  obtain ⟨A3, c3, hv3⟩ := HRX.out.shape
  rw [hlen] at hv3
  obtain ⟨dp, hdpe⟩ : ∃ dp, x.depth = dp := ⟨_, rfl⟩
  rw [hdpe] at HPN HRN
  subst hv3
  obtain ⟨n, hn⟩ : ∃ n, x.size = n := ⟨_, rfl⟩
  rw [hn] at HPS HRS HPN HRN HPM HRM HAL HRX hpos hsz2 ⊢
  clear hgd hlen hal hS3 hdp2 hdpe hn HL
  go_wp2_with fail
  go_loopw [6] (fun s6 wr => ∃ k : Int, -1 ≤ k ∧ k ≤ (n : Int) + 1 ∧ s6 = .int .i64 k ∧ Ext w3 wr) (fun s6 _ => ((n : Int) + 1 - intOf s6).toNat)
  case atStart => exact ⟨-1, by omega, by omega, rfl, Ext.refl _⟩
  case round =>
    obtain ⟨k, hk1, hk2, rfl, hext⟩ := hrel
    have HY := Lib.hid hext
    have HXR := Lib.hid (HX3.out.trans hext)
    clear hext
    by_cases hlt : k ≤ (n : Int)
    · have hw1 : IntKind.i64.wrap (k + 1) = k + 1 := IntWalk.i64_in _ (by omega)
      have hsk := HSZ.out k
      generalize hse : szAt x k = sk at *
      have hP := HPS.out wr k (HRX.out.ext HY.out) (by omega) (by omega) HXR.out
      rw [hse] at hP
      have HP1 := Lib.hid hP
      have hR := fun W hy => HRS.out W k (HRX.out.ext (w' := W) hy) (by omega) (by omega)
      rw [hse] at hR
      have HR1 := Lib.hid hR
      have hne : ((sk : Int) != (sk : Int)) = false := by simp
      clear hP hR hse
      go_wp2_with fail
      refine HP1.out.mono ?_
      rintro e w4 ⟨rfl, hx4⟩
      have HY4 := Lib.hid (HY.out.trans hx4)
      clear hx4
      go_wp2_with fail
      refine (HR1.out _ HY4.out).mono ?_
      rintro e w5 ⟨rfl, hx5⟩
      have HY5 := Lib.hid (HY4.out.trans hx5)
      clear hx5
      go_wp2_with fail
      go_roundw
      case rel => exact ⟨k + 1, by omega, by omega, rfl, HY5.out⟩
      case measure => simp [intOf]; omega
    · have hdk : decide (k ≤ (n : Int)) = false := decide_eq_false hlt
      clear hk1 hk2 hdk
      obtain ⟨sk, hse⟩ : ∃ sk, szAt x i = sk := ⟨_, rfl⟩
      have hP := HPS.out wr i (HRX.out.ext HY.out) hi1 hi2 HXR.out
      have hR := fun W hy => HRS.out W i (HRX.out.ext (w' := W) hy) hi1 hi2
      have hL := fun W hy hx => HPS.out W ((n : Int) - 1) (HRX.out.ext (w' := W) hy) (by omega) (by omega) hx
      rw [hse] at hP hR
      rw [HAL.out] at hL
      have HP1 := Lib.hid hP
      have HR1 := Lib.hid hR
      have HL1 := Lib.hid hL
      have hb1 : ((sk : Int) == (sk : Int)) = true := by simp
      have hb2 : ((dp : Int) == (dp : Int)) = true := by simp
      have hb3 : ((n : Int) == (n : Int)) = true := by simp
      have hw1 : IntKind.i64.wrap ((n : Int) - 1) = (n : Int) - 1 := IntWalk.i64_in _ (by omega)
      clear hP hR hL hse HPS HRS hi1 hi2
      go_wp2_with fail
      refine HP1.out.mono ?_
      rintro e w4 ⟨rfl, hx4⟩
      have HY4 := Lib.hid (HY.out.trans hx4)
      clear hx4
      go_wp2_with fail
      refine (HR1.out _ HY4.out).mono ?_
      rintro e w5 ⟨rfl, hx5⟩
      have HY5 := Lib.hid (HY4.out.trans hx5)
      clear hx5
      go_wp2_with fail
      refine (HPN.out _ (HRX.out.ext HY5.out) (HX3.out.trans HY5.out)).mono ?_
      rintro e w6 ⟨rfl, hx6⟩
      have HY6 := Lib.hid (HY5.out.trans hx6)
      clear hx6
      go_wp2_with fail
      refine (HRN.out _ (HRX.out.ext HY6.out)).mono ?_
      rintro e w7 ⟨rfl, hx7⟩
      have HY7 := Lib.hid (HY6.out.trans hx7)
      clear hx7
      go_wp2_with fail
      refine (HPM.out _ (HRX.out.ext HY7.out)).mono ?_
      rintro e w8 ⟨v8, rfl, ho8, hx8⟩
      have HY8 := Lib.hid (HY7.out.trans hx8)
      have HO8 := Lib.hid ho8.arr
      obtain ⟨n8, A8, c8, rfl⟩ := ho8.arr.shape
      clear hx8 ho8
      go_wp2_with fail
      refine (HRM.out _ (HRX.out.ext HY8.out)).mono ?_
      rintro e w9 ⟨v9, rfl, ho9, hx9⟩
      have HY9 := Lib.hid (HY8.out.trans hx9)
      have HSM := Lib.hid (msame_any w9 _ v9 S3 S3 (HO8.out.ext hx9) ho9.arr (by omega) (by omega))
      rw [decide_eq_true (rfl : S3 = S3)] at HSM
      obtain ⟨n9, A9, c9, rfl⟩ := ho9.arr.shape
      clear hx9 ho9
      go_wp2_with fail
      refine HSM.out.mono ?_
      rintro e w10 ⟨rfl, hx10⟩
      have HY10 := Lib.hid (HY9.out.trans hx10)
      clear hx10
      go_wp2_with fail
      refine (HL1.out _ HY10.out (HX3.out.trans HY10.out)).mono ?_
      rintro e w11 ⟨rfl, hx11⟩
      have HX11 := Lib.hid ((HX3.out.trans HY10.out).trans hx11)
      clear hx11
      go_wp2_with fail
      go_ret
      exact ⟨rfl, HX11.out⟩
end Big
end Go.Proofs.YtgopljllknbelaaGreatDoor
/- The frame round a law's walk: the arguments opened; behind the call they read as they did. -/
namespace Go.Proofs.YtgopljllknbelaaGreatDoor
open Go.ChangeShapes Go.WideShapes Go.ChangeAt Go.RowKit

section
variable {H : Type} {enc : TypeId × Value → H} {P : Program}
theorem trodAll_stays (hl : laidOutB P = true) {W W' : World} (hb : Big.Ext W W') : ∀ (ts : List TypeId) (vs : List Value) (ds : List (DataW H)) (ps : List MemPlace),
    (∀ t ∈ ts, P.readableRec t = true ∧ t < P.types.size) → DataW.TrodAll enc P W 0 (fun _ => true) true ts vs ds ps → (∀ x ∈ ps, x.block < W.heap.size) →
    DataW.TrodAll enc P W' 0 (fun b => decide (b < W.heap.size)) true ts vs ds ps
  | [], vs, ds, ps, _, h, _ => by
    obtain ⟨rfl, rfl, rfl⟩ := trodAll_nil h
    exact trodAll_mk0
  | t :: ts, vs, ds, ps, ht, h, hlt => by
    obtain ⟨v, vs', d, ds', p, q, rfl, rfl, rfl, h1, h2⟩ := trodAll_cons h
    exact trodAll_cons_mk (Below.trod hl (ht t (by simp)).1 (ht t (by simp)).2 h1 hb (fun x hx => hlt x (List.mem_append_left _ hx)))
      (trodAll_stays hl hb ts vs' ds' q (fun t' h' => ht t' (by simp [h'])) h2 (fun x hx => hlt x (List.mem_append_right _ hx)))

/-- What the row asks of a law that returned true and left what was there. -/
theorem post_true {f : Func} {s : ChangeSpec} {W W' : World} {args : Array Value} {ds gs : List (DataW H)} {before : List MemPlace} {tb : TypeId} (hl : laidOutB P = true)
    (hts : (f.params.toList.all fun t => P.readableRec t && decide (t < P.types.size)) = true) (hv : s.vars = []) (hr : f.resultTypes = #[tb]) (htb : P.underlying tb = some .bool)
    (hW : DataW.Whole enc P f.params.toList s.vars false W args.toList ds gs before) (hfn : s.fn H ds = { results := [.lit (.bool true)], args := ds }) (hb : Big.Ext W W') :
    s.post enc P f false true false false W args (.bool true) W' := by
  have hlt := hW.lt
  have hW' := hW
  obtain ⟨p, q, hA, hV, rfl, hfz, hnd⟩ := hW
  rw [hv] at hV
  obtain ⟨rfl, rfl⟩ := trodVars_none hV
  have hfn' : s.fn H (ds ++ []) = { results := [.lit (.bool true)], args := ds } := by rw [List.append_nil]; exact hfn
  refine ⟨ds, [], p ++ [], [], p, [], hW', ?_, ?_, ?_, hb.frame _, fun h => by cases h⟩
  · rw [hfn', hr]
    exact trodAll_mk1 (shut_bool htb _)
  · rw [hfn']
    exact trodAll_stays hl hb _ _ _ _ (fun t ht => by
      have := List.all_eq_true.1 hts t ht
      simpa using this) hA (fun x hx => hlt x (by simpa using hx))
  · rw [hfn', hv]
    rfl
end

/-- A law under its row's conditions, with the form of the world at its beginning. -/
theorem handed_and_shaped {H : Type} {enc : TypeId × Value → H} {a : Assume} {C : Checked} {os : Os} {f : FuncId} {fn : Func} {s : ChangeSpec} {conds : List PathCond} {apart fresh handsOn again : Bool} {X : World → Array Value → Prop}
    (hX : ∀ (w w' : World) (args : Array Value), w.heap = w'.heap → X w args → X w' args)
    (own : ownKnob C.prog.godebug = none) (started : os.Started) (noInit : C.prog.inits.idxOf? f = none) (hfn : C.prog.funcs[f]? = some fn)
    (witness : ∃ (w : World) (tape : Tape) (i : Input), w.os = os ∧ (w.forCall tape i).Shaped C.prog ∧ i.vars = [] ∧ Input.okWide C.prog (w.forCall tape i) .any w.heap.size f i ∧
      ((s.pre enc C.prog fn conds apart (w.forCall tape i).memory i.args ∧ X (w.forCall tape i).memory i.args) ∧ sizedMet enc C.prog fn (OpenSpec.ofChange s) apart (w.forCall tape i).memory i.args) ∧ a.holds C.prog (lone (Frame.enter C.prog f i.args .normal) [] (w.forCall tape i)))
    (contract : ∀ (W : World) (base : Nat) (args : Array Value) (ds gs : List (DataW H)) (before : List MemPlace),
      (∀ (j : Nat) t v, fn.params[j]? = some t → args[j]? = some v → Value.okWide C.prog W .any base t v) →
      DataW.Whole enc C.prog fn.params.toList s.vars apart W args.toList ds gs before →
      (DataW.weightsEach C.prog (fn.params.toList ++ s.plain.varTypes C.prog) (ds ++ gs)).all (· ≤ reachBytes) = true → X W args → W.ShapedOpen C.prog →
      Calls C.prog f args W fun e W' => ∃ v, e = .returned v ∧ s.post enc C.prog fn apart fresh handsOn again W args v W') :
    ReturnsInHanded a C os f .any (fun w args => (s.pre enc C.prog fn conds apart w args ∧ X w args) ∧ sizedMet enc C.prog fn (OpenSpec.ofChange s) apart w args) (s.post enc C.prog fn apart fresh handsOn again) := by
  refine returnsInHanded_of_calls own started noInit witness ?_
  intro w tape i _ hsh _ hok hpre hholds
  obtain ⟨_, _, _, fn', hfn', _, _, _, _, hval⟩ := hok
  have e : fn' = fn := Option.some.inj (hfn'.symm.trans hfn)
  subst e
  obtain ⟨⟨⟨ds, gs, before, hw, hc⟩, hx⟩, hz⟩ := hpre
  have hw' := DataW.Whole.of_heap (w' := w.forCall tape i) (by rfl) hw
  refine (contract (w.forCall tape i) w.heap.size i.args ds gs before hval hw' (hz.weights hw) (hX _ _ _ (by rfl) hx) hsh).mono fun e W' ⟨v, he, hp⟩ => ?_
  subst he
  exact ChangeSpec.post_blind hp

theorem laid_out : laidOutB Tryz.prog = true := by kernel_rfl
theorem own : ownKnob Tryz.prog.godebug = none := by kernel_rfl

section
variable {P : Program} {W : World}
/-- One of several variables that a row lists. -/
theorem laidVars_at : ∀ (i : Nat) (l : List (String × DataW Unit)) (ps : List MemPlace) (n : String) (d : DataW Unit), DataW.LaidVars P W l ps → l[i]? = some (n, d) →
    ∃ g t cs f p, P.globalNamed n = some g ∧ (P.globals[g]?).map (·.type) = some t ∧ W.var? P n = some cs ∧ DataW.trod (fun _ => ()) P W 0 (fun _ => true) false f t cs.toList = some (d, p)
  | i, [], ps, n, d, _, hn => by simp at hn
  | 0, x :: l, ps, n, d, h, hn => by
    simp at hn
    subst hn
    obtain ⟨g, t, cs, f, p, q, h1, h2, h3, h4, _, _⟩ := h
    exact ⟨g, t, cs, f, p, h1, h2, h3, h4⟩
  | i + 1, x :: l, ps, n, d, h, hn => by
    obtain ⟨g, t, cs, f, p, q, _, _, _, _, hs, _⟩ := h
    exact laidVars_at i l q n d hs (by simpa using hn)
theorem laid_at (i : Nat) {l : List (String × DataW Unit)} {n : String} {d : DataW Unit} (h : laidMetH P l W) (hp : (l.all fun x => x.2.handleName?.isNone) = true) (hn : l[i]? = some (n, d)) :
    ∃ g t cs f p, P.globalNamed n = some g ∧ (P.globals[g]?).map (·.type) = some t ∧ W.var? P n = some cs ∧ DataW.trod (fun _ => ()) P W 0 (fun _ => true) false f t cs.toList = some (d, p) := by
  rw [MakeChecks.laidMetH_plain _ _ _ hp] at h
  obtain ⟨ps, hv, _⟩ := h
  exact laidVars_at i l ps n d hv hn
end

section
variable {H : Type} {enc : TypeId × Value → H} {W : World} {fuel : Nat} {v : Value} {y : DataW H × List MemPlace}
theorem cellsOf_u32 : Tryz.prog.cellsOf 126 = 1 := by kernel_rfl
/-- A slice of 32-bit digits that came in. -/
theorem arr_of_trod (h : DataW.trod enc Tryz.prog W 0 (fun _ => true) true fuel 100 [v] = some y) : ∃ xs, Big.Arr W v xs := by
  rcases open_ints Tryz.underlying100 Tryz.underlying126 cellsOf_u32 h with ⟨hv, _⟩ | ⟨a, len, cap, zs, hv, _, hl, hm, hz, _, hc, hw⟩
  · injection hv with hv
    subst hv
    exact ⟨[], Big.Arr.none_ W⟩
  · injection hv with hv
    subst hv
    simp only [if_true] at hz
    refine ⟨(zs.take len).map Int.toNat, ?_⟩
    have hlen : ((zs.take len).map Int.toNat).length = len := by simp; omega
    have hok : Big.Ok ((zs.take len).map Int.toNat) := fun x hx => by
      obtain ⟨n, hn, rfl⟩ := List.mem_map.1 hx
      have := bounds_u32 (hw n (List.mem_of_mem_take hn))
      omega
    have key := Big.Arr.mk (w := W) (A := some a) (c := cap) hok (by rw [hlen]; exact hl) hm (fun hp => by
      rw [hlen] at hp ⊢
      obtain ⟨b, off, rfl, hcell⟩ := ints_at hc (by omega)
      have h0 := hcell 0 (by omega)
      refine ⟨b, off, rfl, World.block_lt_of_cell? W _ h0, fun j hj => ?_⟩
      rw [hcell j (by omega)]
      have hj2 : j < zs.length := by omega
      have hb := bounds_u32 (hw zs[j] (List.getElem_mem hj2))
      have e1 : zs.getD j 0 = zs[j] := by rw [List.getD_eq_getElem?_getD, List.getElem?_eq_getElem hj2]; rfl
      have e2 : ((zs.take len).map Int.toNat).getD j 0 = zs[j].toNat := by
        rw [List.getD_eq_getElem?_getD, List.getElem?_map, List.getElem?_take_of_lt hj, List.getElem?_eq_getElem hj2]; rfl
      rw [e1, e2]
      unfold Big.d32
      rw [Int.toNat_of_nonneg hb.1])
    rw [hlen] at key
    exact key
theorem bool_of_trod (h : DataW.trod enc Tryz.prog W 0 (fun _ => true) true fuel 4 [v] = some y) : ∃ b, v = .bool b := by
  obtain ⟨b, hb, _⟩ := DataW.trod_bool Tryz.underlying4 h
  injection hb with hb
  exact ⟨b, hb⟩
end
section
variable {H : Type} {enc : TypeId × Value → H} {W : World} {v : Value} {d : DataW H} {p : List MemPlace} {r : Reach} {b0 : Nat}
set_option maxRecDepth 100000 in
theorem open_u32s (hv : Value.okWide Tryz.prog W r b0 100 v) (h : DataW.Trod enc Tryz.prog W 0 (fun _ => true) true 100 v d p) : ∃ xs, Big.Arr W v xs := by
  obtain ⟨a, len, cap, rfl⟩ := okWide_slice Tryz.underlying100 hv
  obtain ⟨fuel, hf⟩ := h
  obtain ⟨xs, hxs⟩ := arr_of_trod (by simpa [Value.cells] using hf)
  exact ⟨xs, hxs⟩
end
theorem byte_of_wf {z : Int} (w : (Lit.int .u8 z).wf = true) : ∃ d : UInt8, z = (d.toNat : Int) := by
  have h := bounds_u8 w
  refine ⟨UInt8.ofNat z.toNat, ?_⟩
  have e : (UInt8.ofNat z.toNat).toNat = z.toNat % 2 ^ 8 := UInt8.toNat_ofNat'
  rw [e, Nat.mod_eq_of_lt (by omega)]
  omega
theorem u64_of_wf {z : Int} (w : (Lit.int .u64 z).wf = true) : ∃ n : Nat, n < 18446744073709551616 ∧ z = (n : Int) := by
  have h := bounds_u64 w
  exact ⟨z.toNat, by omega, by omega⟩
theorem str_of_bytes {s : ByteArray} (h : s.size ≤ maxLen) : ∃ l : List UInt8, l.length ≤ maxLen ∧ s = ⟨l.toArray⟩ := by
  refine ⟨s.data.toList, by simpa using h, ?_⟩
  apply ByteArray.ext
  simp
end Go.Proofs.YtgopljllknbelaaGreatDoor
/- A list of integers that came in. -/
namespace Go.Proofs.YtgopljllknbelaaGreatDoor
open Go.ChangeShapes Go.WideShapes Go.ChangeAt Go.RowKit
theorem cellsOf_i64 : Tryz.prog.cellsOf 3 = 1 := by kernel_rfl
section
variable {H : Type} {enc : TypeId × Value → H} {W : World} {v : Value} {d : DataW H} {p : List MemPlace} {r : Reach} {b0 : Nat}
theorem nums_of_trod {fuel : Nat} {y : DataW H × List MemPlace} (h : DataW.trod enc Tryz.prog W 0 (fun _ => true) true fuel 22 [v] = some y) : ∃ xs, Big.ArrI W v xs := by
  rcases open_ints Tryz.underlying22 Tryz.underlying3 cellsOf_i64 h with ⟨hv, _⟩ | ⟨a, len, cap, zs, hv, _, hl, hm, hz, _, hc, hw⟩
  · injection hv with hv
    subst hv
    exact ⟨[], ⟨(fun x hx => by cases hx), Big.RArr.none_ W⟩⟩
  · injection hv with hv
    subst hv
    simp only [if_true] at hz
    refine ⟨zs.take len, fun x hx => bounds_i64 (hw x (List.mem_of_mem_take hx)), some a, cap, by simp; omega, by simp; omega, hm, fun hp => ?_⟩
    simp only [List.length_map, List.length_take] at hp
    obtain ⟨b, off, rfl, hcell⟩ := ints_at hc (by omega)
    have h0 := hcell 0 (by omega)
    refine ⟨b, off, rfl, World.block_lt_of_cell? W _ h0, fun j u hj => ?_⟩
    rw [List.getElem?_map] at hj
    have hjl : j < len := by
      rcases Nat.lt_or_ge j len with h | h
      · exact h
      · rw [List.getElem?_eq_none (by simp; omega)] at hj; cases hj
    have hj2 : j < zs.length := by omega
    rw [List.getElem?_take_of_lt hjl, List.getElem?_eq_getElem hj2] at hj
    injection hj with hj
    subst hj
    rw [hcell j (by omega)]
    have e1 : zs.getD j 0 = zs[j] := by rw [List.getD_eq_getElem?_getD, List.getElem?_eq_getElem hj2]; rfl
    rw [e1]
    rfl
set_option maxRecDepth 100000 in
theorem open_nums (hv : Value.okWide Tryz.prog W r b0 22 v) (h : DataW.Trod enc Tryz.prog W 0 (fun _ => true) true 22 v d p) : ∃ xs, Big.ArrI W v xs := by
  obtain ⟨a, len, cap, rfl⟩ := okWide_slice Tryz.underlying22 hv
  obtain ⟨fuel, hf⟩ := h
  obtain ⟨xs, hxs⟩ := nums_of_trod (by simpa [Value.cells] using hf)
  exact ⟨xs, hxs⟩
end
end Go.Proofs.YtgopljllknbelaaGreatDoor
