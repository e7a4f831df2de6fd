import Derived.Test.YtaccjdbbkmhanaaGreatDoorM33
import Derived.Test.YtaccjdbbkmhanaaGreatDoorM10
import Derived.Test.YtaccjdbbkmhanaaGreatDoorRows
import Derived.Test.YtaccjdbbkmhanaaGreatDoorM4
import Derived.ProofKit
import Derived.LaidMore
import Derived.OpenShut
import Derived.Stop.Joined
import Derived.Lib.LaidTab
import Derived.Carry
import Derived.Handed
import Derived.HandedShaped
import Derived.Deep.Strs
import Derived.ChangeMaps5
import Derived.Lib.SmallJoins
import Derived.Test.YtaccjdbbkmhanaaGreatDoorM7
/- GraphShares. Printed by a program. -/
namespace Go.Proofs.YtaccjdbbkmhanaaGreatDoor
namespace Big
open Go.RowKit
set_option maxHeartbeats 4000000 in
set_option maxRecDepth 100000 in
theorem graphShares_any (w : World) (v u : Value) (l m : List Int) (h : ArrI w v l) (h' : ArrI w u m) (hm : MaxV w) :
    Calls Tryz.prog 3 #[v, u] w fun e w' => e = .returned (.bool true) ∧ Ext w w' := by
  have HAW := Lib.hid (awake21_any w hm)
  have HM := Lib.hid hm
  have HL := Lib.hid h
  have HL2 := Lib.hid h'
  have HLT := Lib.hid (fun W hx => light_any W v l (HL.out.ext hx))
  have HLT2 := Lib.hid (fun W hx => light_any W u m (HL2.out.ext hx))
  obtain ⟨A0, c0, rfl, _⟩ := h.open
  obtain ⟨A9, c9, rfl, _⟩ := h'.open
  clear h h' hm
  by_cases hlt : 120 < l.length
  · have hd : decide (l.length ≤ 120) = false := decide_eq_false (by omega)
    rw [hd] at HLT
    clear HL HL2 hlt hd
    go_enter Tryz.func3, Tryz.ntmps3
    go_wp2_with fail
    refine HAW.out.mono ?_
    rintro e w1 ⟨rfl, hx1⟩
    have HX1 := Lib.hid hx1
    clear hx1
    go_wp2_with fail
    refine (HLT.out _ HX1.out).mono ?_
    rintro e w2 ⟨rfl, rfl⟩
    go_wp2_with fail
    go_ret
    exact ⟨rfl, HX1.out⟩
  have hd : decide (l.length ≤ 120) = true := decide_eq_true (by omega)
  rw [hd] at HLT
  have hll : l.length ≤ 120 := by omega
  clear hlt hd
  by_cases hlt2 : 120 < m.length
  · have hd : decide (m.length ≤ 120) = false := decide_eq_false (by omega)
    rw [hd] at HLT2
    clear HL HL2 hlt2 hd
    go_enter Tryz.func3, Tryz.ntmps3
    go_wp2_with fail
    refine HAW.out.mono ?_
    rintro e w1 ⟨rfl, hx1⟩
    have HX1 := Lib.hid hx1
    clear hx1
    go_wp2_with fail
    refine (HLT.out _ HX1.out).mono ?_
    rintro e w2 ⟨rfl, rfl⟩
    go_wp2_with fail
    refine (HLT2.out _ HX1.out).mono ?_
    rintro e w2 ⟨rfl, rfl⟩
    go_wp2_with fail
    go_ret
    exact ⟨rfl, HX1.out⟩
  have hd : decide (m.length ≤ 120) = true := decide_eq_true (by omega)
  rw [hd] at HLT2
  have hll2 : m.length ≤ 120 := by omega
  clear hlt2 hd
  go_enter Tryz.func3, Tryz.ntmps3
  go_wp2_with fail
  refine HAW.out.mono ?_
  rintro e w1 ⟨rfl, hx1⟩
  have HX1 := Lib.hid hx1
  clear hx1
  go_wp2_with fail
  refine (HLT.out _ HX1.out).mono ?_
  rintro e w2 ⟨rfl, rfl⟩
  go_wp2_with fail
  refine (HLT2.out _ HX1.out).mono ?_
  rintro e w2 ⟨rfl, rfl⟩
  go_wp2_with fail
  refine (new_any _ _ l (HL.out.ext HX1.out) (by omega)).mono ?_
  rintro e w2 ⟨rfl, ht, hx, hs⟩
  rw [← hs] at ht
  have HX2 := Lib.hid (HX1.out.trans hx)
  have hg2 : w.heap.size ≤ w1.heap.size := HX1.out.size
  have hg3 : w.heap.size ≤ w2.heap.size := HX2.out.size
  have HEX := Lib.hid (expr_any 5 w1.heap.size w2 _ l 0 false ht (by decide) (by decide))
  have hg4 : w1.heap.size ≤ w2.heap.size := hx.size
  have HXK := Lib.hid hx
  generalize hgg : w1.heap.size = g1 at *
  clear ht hs hx
  go_wp2_with fail
  refine HEX.out.mono ?_
  rintro e w3 ⟨x, v3, a1, rfl, hgdx, hsz, hdp, hown, htp, hk⟩
  have hszx : x.size ≤ 31 := by have : 2 ^ 5 ≤ 32 := (by decide); omega
  have hdpx : x.depth ≤ 5 := hdp
  have HRx : Hid (RNd w3 v3 (flat 0 x)) := Lib.hid (by rw [List.nil_append] at hown; exact hown.read)
  have HX3 := Lib.hid (hk.to_ext HX2.out hg3 hg2)
  have HXXx := Lib.hid (hk.to_ext HXK.out (by rw [hgg]; exact hg4) (by rw [hgg]; exact Nat.le_refl _))
  clear hsz hdp hown htp hk HEX hg2 hg3 hg4 HXK hgg
  go_wp2_with fail
  refine (new_any _ _ m (HL2.out.ext HX3.out) (by omega)).mono ?_
  rintro e w4 ⟨rfl, ht, hx, hs⟩
  rw [← hs] at ht
  have HX4 := Lib.hid (HX3.out.trans hx)
  have hg2 : w.heap.size ≤ w3.heap.size := HX3.out.size
  have hg3 : w.heap.size ≤ w4.heap.size := HX4.out.size
  have HEX := Lib.hid (expr_any 5 w3.heap.size w4 _ m 0 false ht (by decide) (by decide))
  have hg4 : w3.heap.size ≤ w4.heap.size := hx.size
  have HXK := Lib.hid hx
  generalize hgg : w3.heap.size = g3 at *
  clear ht hs hx
  go_wp2_with fail
  refine HEX.out.mono ?_
  rintro e w5 ⟨y, v5, a3, rfl, hgdy, hsz, hdp, hown, htp, hk⟩
  have hszy : y.size ≤ 31 := by have : 2 ^ 5 ≤ 32 := (by decide); omega
  have hdpy : y.depth ≤ 5 := hdp
  have HRy : Hid (RNd w5 v5 (flat 0 y)) := Lib.hid (by rw [List.nil_append] at hown; exact hown.read)
  have HX5 := Lib.hid (hk.to_ext HX4.out hg3 hg2)
  have HXXy := Lib.hid (hk.to_ext HXK.out (by rw [hgg]; exact hg4) (by rw [hgg]; exact Nat.le_refl _))
  clear hsz hdp hown htp hk HEX hg2 hg3 hg4 HXK hgg
  go_wp2_with fail
  have HRx5 := Lib.hid (HRx.out.ext HXXy.out)
  refine (gnew_any w5 (HM.out.ext HX5.out)).mono ?_
  rintro e w6 ⟨g, b, rfl, hg, hx⟩
  have HG6 := Lib.hid hg
  have HX6 := Lib.hid (HX5.out.trans hx)
  have HM6 := Lib.hid (HM.out.ext HX6.out)
  have HFx := Lib.hid (NdFar.old (nv := .slice none 0 0) HRx5.out hx hg.lo hg.lo2 (fun j hj => by cases hj))
  have HFy := Lib.hid (NdFar.old (nv := .slice none 0 0) HRy.out hx hg.lo hg.lo2 (fun j hj => by cases hj))
  clear hx hg
  have hlen6 : ([] : List Nd).length = 0 := rfl
  go_wp2_with fail
  refine (add_graph w5.heap.size g b w6 ([]) (.slice none 0 0) v3 x HG6.out HFx.out hgdx (by omega) (by omega) HM6.out (by have := hlen6; omega)).mono ?_
  rintro r w7 ⟨nv7, rfl, hk, hg⟩
  have HG7 := Lib.hid hg
  have HK7 := Lib.hid hk
  have HM7 : Hid (MaxV w7) := Lib.hid (HM6.out.below (hk.below HG6.out) HG6.out.low)
  have HX7 : Hid (Ext w w7) := Lib.hid (HX6.out.more (Below.mono (hk.below HG6.out) HX5.out.size))
  clear hk hg
  have HFx7 := Lib.hid (HFx.out.keep HK7.out)
  have HFy7 := Lib.hid (HFy.out.keep HK7.out)
  have hlen7 := addG_len x []
  rw [List.length_nil, Nat.zero_add] at hlen7
  go_wp2_with fail
  refine (add_graph w5.heap.size g b w7 ((addG [] x).2) nv7 v5 y HG7.out HFy7.out hgdy (by omega) (by omega) HM7.out (by have := hlen7; omega)).mono ?_
  rintro r w8 ⟨nv8, rfl, hk, hg⟩
  have HG8 := Lib.hid hg
  have HK8 := Lib.hid hk
  have HM8 : Hid (MaxV w8) := Lib.hid (HM7.out.below (hk.below HG7.out) HG7.out.low)
  have HX8 : Hid (Ext w w8) := Lib.hid (HX7.out.more (Below.mono (hk.below HG7.out) HX5.out.size))
  clear hk hg
  have HFx8 := Lib.hid (HFx7.out.keep HK8.out)
  have hlen8 := addG_len y (addG [] x).2
  have HGL := Lib.hid (glen_any w5.heap.size g b w8 _ nv8 HG8.out)
  have hsh := addG_shares (ns := []) List.nodup_nil hgdx hgdy
  have HE1 := Lib.hid hsh.1
  have HE2 := Lib.hid hsh.2
  clear hsh
  go_wp2_with fail
  refine HGL.out.mono ?_
  rintro r w8' ⟨rfl, rfl⟩
  go_wp2_with fail
  refine (add_graph w5.heap.size g b w8 ((addG (addG [] x).2 y).2) nv8 v3 x HG8.out HFx8.out hgdx (by omega) (by omega) HM8.out (by have := hlen8; omega)).mono ?_
  rintro r w9 ⟨nv9, rfl, hk, hg⟩
  have HG9 := Lib.hid hg
  have HK9 := Lib.hid hk
  have HM9 : Hid (MaxV w9) := Lib.hid (HM8.out.below (hk.below HG8.out) HG8.out.low)
  have HX9 : Hid (Ext w w9) := Lib.hid (HX8.out.more (Below.mono (hk.below HG8.out) HX5.out.size))
  clear hk hg
  rw [HE2.out] at HG9 ⊢
  have HGL9 := Lib.hid (glen_any w5.heap.size g b w9 _ nv9 HG9.out)
  have HSM := Lib.hid (fun W h1 h2 => rsameD_any W v3 v5 (flat 0 x) (flat 0 y) h1 h2 (by rw [flat_len]; omega) (by rw [flat_len]; omega))
  have HRx9 := Lib.hid (((HFx8.out.keep HK9.out)).read)
  have HRy9 := Lib.hid ((((HFy7.out.keep HK8.out)).keep HK9.out).read)
  have hle : (addG (addG [] x).2 y).2.length ≤ x.size + y.size := by omega
  have HFI : Hid ((addG [] x).1 = (addG (addG [] x).2 y).1 ↔ flat 0 x = flat 0 y) := Lib.hid (HE1.out.trans ⟨fun e => by rw [e], fun e => flat_inj x y 0 e⟩)
  obtain ⟨A3, c3, rfl, _⟩ := HRx5.out
  obtain ⟨A5, c5, rfl, _⟩ := HRy.out
  simp only [flat_len] at *
  clear HE1 HE2 hlen7 hlen8 hlen6 HLT HLT2 HAW
  generalize (addG (addG [] x).2 y).2.length = ln at *
  generalize (addG [] x).1 = pa at *
  generalize (addG (addG [] x).2 y).1 = pb at *
  have hw1 : IntKind.i64.wrap ((x.size : Int) + (y.size : Int)) = (x.size : Int) + (y.size : Int) := IntWalk.i64_in _ (by omega)
  have hle2 : decide ((ln : Int) ≤ (x.size : Int) + (y.size : Int)) = true := decide_eq_true (by omega)
  go_wp2_with fail
  refine HGL9.out.mono ?_
  rintro e w10 ⟨rfl, rfl⟩
  go_wp2_with fail
  refine (HSM.out _ HRx9.out HRy9.out).mono ?_
  rintro e w11 ⟨r, rfl, hr, hd⟩
  have HX11 := Lib.hid (HX9.out.trans hd.ext)
  have hab : ((pa : Int) == (pb : Int)) = r := by
    rw [Bool.eq_iff_iff, beq_iff_eq, hr, ← HFI.out]
    omega
  clear hr hd
  go_wp2_with fail
  go_ret
  exact ⟨by cases r <;> rfl, HX11.out⟩
end Big
end Go.Proofs.YtaccjdbbkmhanaaGreatDoor
/- The frame round a law's walk: the arguments opened; behind the call they read as they did. -/
namespace Go.Proofs.YtaccjdbbkmhanaaGreatDoor
open Go.ChangeShapes Go.WideShapes Go.ChangeAt Go.RowKit

section
variable {H : Type} {enc : TypeId × Value → H} {P : Program}
theorem trodAll_stays (hl : laidOutB P = true) {W W' : World} (hb : Big.Ext W W') : ∀ (ts : List TypeId) (vs : List Value) (ds : List (DataW H)) (ps : List MemPlace),
    (∀ t ∈ ts, P.readableRec t = true ∧ t < P.types.size) → DataW.TrodAll enc P W 0 (fun _ => true) true ts vs ds ps → (∀ x ∈ ps, x.block < W.heap.size) →
    DataW.TrodAll enc P W' 0 (fun b => decide (b < W.heap.size)) true ts vs ds ps
  | [], vs, ds, ps, _, h, _ => by
    obtain ⟨rfl, rfl, rfl⟩ := trodAll_nil h
    exact trodAll_mk0
  | t :: ts, vs, ds, ps, ht, h, hlt => by
    obtain ⟨v, vs', d, ds', p, q, rfl, rfl, rfl, h1, h2⟩ := trodAll_cons h
    exact trodAll_cons_mk (Below.trod hl (ht t (by simp)).1 (ht t (by simp)).2 h1 hb (fun x hx => hlt x (List.mem_append_left _ hx)))
      (trodAll_stays hl hb ts vs' ds' q (fun t' h' => ht t' (by simp [h'])) h2 (fun x hx => hlt x (List.mem_append_right _ hx)))

/-- What the row asks of a law that returned true and left what was there. -/
theorem post_true {f : Func} {s : ChangeSpec} {W W' : World} {args : Array Value} {ds gs : List (DataW H)} {before : List MemPlace} {tb : TypeId} (hl : laidOutB P = true)
    (hts : (f.params.toList.all fun t => P.readableRec t && decide (t < P.types.size)) = true) (hv : s.vars = []) (hr : f.resultTypes = #[tb]) (htb : P.underlying tb = some .bool)
    (hW : DataW.Whole enc P f.params.toList s.vars false W args.toList ds gs before) (hfn : s.fn H ds = { results := [.lit (.bool true)], args := ds }) (hb : Big.Ext W W') :
    s.post enc P f false true false false W args (.bool true) W' := by
  have hlt := hW.lt
  have hW' := hW
  obtain ⟨p, q, hA, hV, rfl, hfz, hnd⟩ := hW
  rw [hv] at hV
  obtain ⟨rfl, rfl⟩ := trodVars_none hV
  have hfn' : s.fn H (ds ++ []) = { results := [.lit (.bool true)], args := ds } := by rw [List.append_nil]; exact hfn
  refine ⟨ds, [], p ++ [], [], p, [], hW', ?_, ?_, ?_, hb.frame _, fun h => by cases h⟩
  · rw [hfn', hr]
    exact trodAll_mk1 (shut_bool htb _)
  · rw [hfn']
    exact trodAll_stays hl hb _ _ _ _ (fun t ht => by
      have := List.all_eq_true.1 hts t ht
      simpa using this) hA (fun x hx => hlt x (by simpa using hx))
  · rw [hfn', hv]
    rfl
end

/-- A law under its row's conditions, with the form of the world at its beginning. -/
theorem handed_and_shaped {H : Type} {enc : TypeId × Value → H} {a : Assume} {C : Checked} {os : Os} {f : FuncId} {fn : Func} {s : ChangeSpec} {conds : List PathCond} {apart fresh handsOn again : Bool} {X : World → Array Value → Prop}
    (hX : ∀ (w w' : World) (args : Array Value), w.heap = w'.heap → X w args → X w' args)
    (own : ownKnob C.prog.godebug = none) (started : os.Started) (noInit : C.prog.inits.idxOf? f = none) (hfn : C.prog.funcs[f]? = some fn)
    (witness : ∃ (w : World) (tape : Tape) (i : Input), w.os = os ∧ (w.forCall tape i).Shaped C.prog ∧ i.vars = [] ∧ Input.okWide C.prog (w.forCall tape i) .any w.heap.size f i ∧
      ((s.pre enc C.prog fn conds apart (w.forCall tape i).memory i.args ∧ X (w.forCall tape i).memory i.args) ∧ sizedMet enc C.prog fn (OpenSpec.ofChange s) apart (w.forCall tape i).memory i.args) ∧ a.holds C.prog (lone (Frame.enter C.prog f i.args .normal) [] (w.forCall tape i)))
    (contract : ∀ (W : World) (base : Nat) (args : Array Value) (ds gs : List (DataW H)) (before : List MemPlace),
      (∀ (j : Nat) t v, fn.params[j]? = some t → args[j]? = some v → Value.okWide C.prog W .any base t v) →
      DataW.Whole enc C.prog fn.params.toList s.vars apart W args.toList ds gs before →
      (DataW.weightsEach C.prog (fn.params.toList ++ s.plain.varTypes C.prog) (ds ++ gs)).all (· ≤ reachBytes) = true → X W args → W.ShapedOpen C.prog →
      Calls C.prog f args W fun e W' => ∃ v, e = .returned v ∧ s.post enc C.prog fn apart fresh handsOn again W args v W') :
    ReturnsInHanded a C os f .any (fun w args => (s.pre enc C.prog fn conds apart w args ∧ X w args) ∧ sizedMet enc C.prog fn (OpenSpec.ofChange s) apart w args) (s.post enc C.prog fn apart fresh handsOn again) := by
  refine returnsInHanded_of_calls own started noInit witness ?_
  intro w tape i _ hsh _ hok hpre hholds
  obtain ⟨_, _, _, fn', hfn', _, _, _, _, hval⟩ := hok
  have e : fn' = fn := Option.some.inj (hfn'.symm.trans hfn)
  subst e
  obtain ⟨⟨⟨ds, gs, before, hw, hc⟩, hx⟩, hz⟩ := hpre
  have hw' := DataW.Whole.of_heap (w' := w.forCall tape i) (by rfl) hw
  refine (contract (w.forCall tape i) w.heap.size i.args ds gs before hval hw' (hz.weights hw) (hX _ _ _ (by rfl) hx) hsh).mono fun e W' ⟨v, he, hp⟩ => ?_
  subst he
  exact ChangeSpec.post_blind hp

theorem laid_out : laidOutB Tryz.prog = true := by kernel_rfl
theorem own : ownKnob Tryz.prog.godebug = none := by kernel_rfl

section
variable {P : Program} {W : World}
end

section
variable {H : Type} {enc : TypeId × Value → H} {W : World} {fuel : Nat} {v : Value} {y : DataW H × List MemPlace}
end
section
variable {H : Type} {enc : TypeId × Value → H} {W : World} {v : Value} {d : DataW H} {p : List MemPlace} {r : Reach} {b0 : Nat}
end
end Go.Proofs.YtaccjdbbkmhanaaGreatDoor
/- A list of integers that came in. -/
namespace Go.Proofs.YtaccjdbbkmhanaaGreatDoor
open Go.ChangeShapes Go.WideShapes Go.ChangeAt Go.RowKit
theorem cellsOf_i64 : Tryz.prog.cellsOf 3 = 1 := by kernel_rfl
section
variable {H : Type} {enc : TypeId × Value → H} {W : World} {v : Value} {d : DataW H} {p : List MemPlace} {r : Reach} {b0 : Nat}
theorem nums_of_trod {fuel : Nat} {y : DataW H × List MemPlace} (h : DataW.trod enc Tryz.prog W 0 (fun _ => true) true fuel 22 [v] = some y) : ∃ xs, Big.ArrI W v xs := by
  rcases open_ints Tryz.underlying22 Tryz.underlying3 cellsOf_i64 h with ⟨hv, _⟩ | ⟨a, len, cap, zs, hv, _, hl, hm, hz, _, hc, hw⟩
  · injection hv with hv
    subst hv
    exact ⟨[], ⟨(fun x hx => by cases hx), Big.RArr.none_ W⟩⟩
  · injection hv with hv
    subst hv
    simp only [if_true] at hz
    refine ⟨zs.take len, fun x hx => bounds_i64 (hw x (List.mem_of_mem_take hx)), some a, cap, by simp; omega, by simp; omega, hm, fun hp => ?_⟩
    simp only [List.length_map, List.length_take] at hp
    obtain ⟨b, off, rfl, hcell⟩ := ints_at hc (by omega)
    have h0 := hcell 0 (by omega)
    refine ⟨b, off, rfl, World.block_lt_of_cell? W _ h0, fun j u hj => ?_⟩
    rw [List.getElem?_map] at hj
    have hjl : j < len := by
      rcases Nat.lt_or_ge j len with h | h
      · exact h
      · rw [List.getElem?_eq_none (by simp; omega)] at hj; cases hj
    have hj2 : j < zs.length := by omega
    rw [List.getElem?_take_of_lt hjl, List.getElem?_eq_getElem hj2] at hj
    injection hj with hj
    subst hj
    rw [hcell j (by omega)]
    have e1 : zs.getD j 0 = zs[j] := by rw [List.getD_eq_getElem?_getD, List.getElem?_eq_getElem hj2]; rfl
    rw [e1]
    rfl
set_option maxRecDepth 100000 in
theorem open_nums (hv : Value.okWide Tryz.prog W r b0 22 v) (h : DataW.Trod enc Tryz.prog W 0 (fun _ => true) true 22 v d p) : ∃ xs, Big.ArrI W v xs := by
  obtain ⟨a, len, cap, rfl⟩ := okWide_slice Tryz.underlying22 hv
  obtain ⟨fuel, hf⟩ := h
  obtain ⟨xs, hxs⟩ := nums_of_trod (by simpa [Value.cells] using hf)
  exact ⟨xs, hxs⟩
end
end Go.Proofs.YtaccjdbbkmhanaaGreatDoor
