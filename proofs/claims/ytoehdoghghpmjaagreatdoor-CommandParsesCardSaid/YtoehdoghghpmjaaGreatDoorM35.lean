import Derived.Test.YtoehdoghghpmjaaGreatDoorRows
import Derived.Test.YtoehdoghghpmjaaGreatDoorM4
import Derived.ProofKit
import Derived.LaidMore
import Derived.OpenShut
import Derived.Stop.Joined
import Derived.Lib.LaidTab
import Derived.Carry
import Derived.Handed
import Derived.HandedShaped
import Derived.Deep.Strs
import Derived.ChangeMaps5
import Derived.Lib.SmallJoins
import Derived.Test.YtoehdoghghpmjaaGreatDoorM15
import Derived.LaidLaws
import Derived.Test.YtoehdoghghpmjaaGreatDoorM20
/- The frame round a law's walk: the arguments opened; behind the call they read as they did. -/
namespace Go.Proofs.YtoehdoghghpmjaaGreatDoor
open Go.ChangeShapes Go.WideShapes Go.ChangeAt Go.RowKit

section
variable {H : Type} {enc : TypeId × Value → H} {P : Program}
theorem trodAll_stays (hl : laidOutB P = true) {W W' : World} (hb : Big.Ext W W') : ∀ (ts : List TypeId) (vs : List Value) (ds : List (DataW H)) (ps : List MemPlace),
    (∀ t ∈ ts, P.readableRec t = true ∧ t < P.types.size) → DataW.TrodAll enc P W 0 (fun _ => true) true ts vs ds ps → (∀ x ∈ ps, x.block < W.heap.size) →
    DataW.TrodAll enc P W' 0 (fun b => decide (b < W.heap.size)) true ts vs ds ps
  | [], vs, ds, ps, _, h, _ => by
    obtain ⟨rfl, rfl, rfl⟩ := trodAll_nil h
    exact trodAll_mk0
  | t :: ts, vs, ds, ps, ht, h, hlt => by
    obtain ⟨v, vs', d, ds', p, q, rfl, rfl, rfl, h1, h2⟩ := trodAll_cons h
    exact trodAll_cons_mk (Below.trod hl (ht t (by simp)).1 (ht t (by simp)).2 h1 hb (fun x hx => hlt x (List.mem_append_left _ hx)))
      (trodAll_stays hl hb ts vs' ds' q (fun t' h' => ht t' (by simp [h'])) h2 (fun x hx => hlt x (List.mem_append_right _ hx)))

/-- What the row asks of a law that returned true and left what was there. -/
theorem post_true {f : Func} {s : ChangeSpec} {W W' : World} {args : Array Value} {ds gs : List (DataW H)} {before : List MemPlace} {tb : TypeId} (hl : laidOutB P = true)
    (hts : (f.params.toList.all fun t => P.readableRec t && decide (t < P.types.size)) = true) (hv : s.vars = []) (hr : f.resultTypes = #[tb]) (htb : P.underlying tb = some .bool)
    (hW : DataW.Whole enc P f.params.toList s.vars false W args.toList ds gs before) (hfn : s.fn H ds = { results := [.lit (.bool true)], args := ds }) (hb : Big.Ext W W') :
    s.post enc P f false true false false W args (.bool true) W' := by
  have hlt := hW.lt
  have hW' := hW
  obtain ⟨p, q, hA, hV, rfl, hfz, hnd⟩ := hW
  rw [hv] at hV
  obtain ⟨rfl, rfl⟩ := trodVars_none hV
  have hfn' : s.fn H (ds ++ []) = { results := [.lit (.bool true)], args := ds } := by rw [List.append_nil]; exact hfn
  refine ⟨ds, [], p ++ [], [], p, [], hW', ?_, ?_, ?_, hb.frame _, fun h => by cases h⟩
  · rw [hfn', hr]
    exact trodAll_mk1 (shut_bool htb _)
  · rw [hfn']
    exact trodAll_stays hl hb _ _ _ _ (fun t ht => by
      have := List.all_eq_true.1 hts t ht
      simpa using this) hA (fun x hx => hlt x (by simpa using hx))
  · rw [hfn', hv]
    rfl
end

/-- A law under its row's conditions, with the form of the world at its beginning. -/
theorem handed_and_shaped {H : Type} {enc : TypeId × Value → H} {a : Assume} {C : Checked} {os : Os} {f : FuncId} {fn : Func} {s : ChangeSpec} {conds : List PathCond} {apart fresh handsOn again : Bool} {X : World → Array Value → Prop}
    (hX : ∀ (w w' : World) (args : Array Value), w.heap = w'.heap → X w args → X w' args)
    (own : ownKnob C.prog.godebug = none) (started : os.Started) (noInit : C.prog.inits.idxOf? f = none) (hfn : C.prog.funcs[f]? = some fn)
    (witness : ∃ (w : World) (tape : Tape) (i : Input), w.os = os ∧ (w.forCall tape i).Shaped C.prog ∧ i.vars = [] ∧ Input.okWide C.prog (w.forCall tape i) .any w.heap.size f i ∧
      ((s.pre enc C.prog fn conds apart (w.forCall tape i).memory i.args ∧ X (w.forCall tape i).memory i.args) ∧ sizedMet enc C.prog fn (OpenSpec.ofChange s) apart (w.forCall tape i).memory i.args) ∧ a.holds C.prog (lone (Frame.enter C.prog f i.args .normal) [] (w.forCall tape i)))
    (contract : ∀ (W : World) (base : Nat) (args : Array Value) (ds gs : List (DataW H)) (before : List MemPlace),
      (∀ (j : Nat) t v, fn.params[j]? = some t → args[j]? = some v → Value.okWide C.prog W .any base t v) →
      DataW.Whole enc C.prog fn.params.toList s.vars apart W args.toList ds gs before →
      (DataW.weightsEach C.prog (fn.params.toList ++ s.plain.varTypes C.prog) (ds ++ gs)).all (· ≤ reachBytes) = true → X W args → W.ShapedOpen C.prog →
      Calls C.prog f args W fun e W' => ∃ v, e = .returned v ∧ s.post enc C.prog fn apart fresh handsOn again W args v W') :
    ReturnsInHanded a C os f .any (fun w args => (s.pre enc C.prog fn conds apart w args ∧ X w args) ∧ sizedMet enc C.prog fn (OpenSpec.ofChange s) apart w args) (s.post enc C.prog fn apart fresh handsOn again) := by
  refine returnsInHanded_of_calls own started noInit witness ?_
  intro w tape i _ hsh _ hok hpre hholds
  obtain ⟨_, _, _, fn', hfn', _, _, _, _, hval⟩ := hok
  have e : fn' = fn := Option.some.inj (hfn'.symm.trans hfn)
  subst e
  obtain ⟨⟨⟨ds, gs, before, hw, hc⟩, hx⟩, hz⟩ := hpre
  have hw' := DataW.Whole.of_heap (w' := w.forCall tape i) (by rfl) hw
  refine (contract (w.forCall tape i) w.heap.size i.args ds gs before hval hw' (hz.weights hw) (hX _ _ _ (by rfl) hx) hsh).mono fun e W' ⟨v, he, hp⟩ => ?_
  subst he
  exact ChangeSpec.post_blind hp

theorem laid_out : laidOutB Tryz.prog = true := by kernel_rfl
theorem own : ownKnob Tryz.prog.godebug = none := by kernel_rfl

section
variable {P : Program} {W : World}
/-- One of several variables that a row lists. -/
theorem laidVars_at : ∀ (i : Nat) (l : List (String × DataW Unit)) (ps : List MemPlace) (n : String) (d : DataW Unit), DataW.LaidVars P W l ps → l[i]? = some (n, d) →
    ∃ g t cs f p, P.globalNamed n = some g ∧ (P.globals[g]?).map (·.type) = some t ∧ W.var? P n = some cs ∧ DataW.trod (fun _ => ()) P W 0 (fun _ => true) false f t cs.toList = some (d, p)
  | i, [], ps, n, d, _, hn => by simp at hn
  | 0, x :: l, ps, n, d, h, hn => by
    simp at hn
    subst hn
    obtain ⟨g, t, cs, f, p, q, h1, h2, h3, h4, _, _⟩ := h
    exact ⟨g, t, cs, f, p, h1, h2, h3, h4⟩
  | i + 1, x :: l, ps, n, d, h, hn => by
    obtain ⟨g, t, cs, f, p, q, _, _, _, _, hs, _⟩ := h
    exact laidVars_at i l q n d hs (by simpa using hn)
theorem laid_at (i : Nat) {l : List (String × DataW Unit)} {n : String} {d : DataW Unit} (h : laidMetH P l W) (hp : (l.all fun x => x.2.handleName?.isNone) = true) (hn : l[i]? = some (n, d)) :
    ∃ g t cs f p, P.globalNamed n = some g ∧ (P.globals[g]?).map (·.type) = some t ∧ W.var? P n = some cs ∧ DataW.trod (fun _ => ()) P W 0 (fun _ => true) false f t cs.toList = some (d, p) := by
  rw [MakeChecks.laidMetH_plain _ _ _ hp] at h
  obtain ⟨ps, hv, _⟩ := h
  exact laidVars_at i l ps n d hv hn
end

section
variable {H : Type} {enc : TypeId × Value → H} {W : World} {fuel : Nat} {v : Value} {y : DataW H × List MemPlace}
theorem cellsOf_u32 : Tryz.prog.cellsOf 97 = 1 := by kernel_rfl
/-- A slice of 32-bit digits that came in. -/
theorem arr_of_trod (h : DataW.trod enc Tryz.prog W 0 (fun _ => true) true fuel 46 [v] = some y) : ∃ xs, Big.Arr W v xs := by
  rcases open_ints Tryz.underlying46 Tryz.underlying97 cellsOf_u32 h with ⟨hv, _⟩ | ⟨a, len, cap, zs, hv, _, hl, hm, hz, _, hc, hw⟩
  · injection hv with hv
    subst hv
    exact ⟨[], Big.Arr.none_ W⟩
  · injection hv with hv
    subst hv
    simp only [if_true] at hz
    refine ⟨(zs.take len).map Int.toNat, ?_⟩
    have hlen : ((zs.take len).map Int.toNat).length = len := by simp; omega
    have hok : Big.Ok ((zs.take len).map Int.toNat) := fun x hx => by
      obtain ⟨n, hn, rfl⟩ := List.mem_map.1 hx
      have := bounds_u32 (hw n (List.mem_of_mem_take hn))
      omega
    have key := Big.Arr.mk (w := W) (A := some a) (c := cap) hok (by rw [hlen]; exact hl) hm (fun hp => by
      rw [hlen] at hp ⊢
      obtain ⟨b, off, rfl, hcell⟩ := ints_at hc (by omega)
      have h0 := hcell 0 (by omega)
      refine ⟨b, off, rfl, World.block_lt_of_cell? W _ h0, fun j hj => ?_⟩
      rw [hcell j (by omega)]
      have hj2 : j < zs.length := by omega
      have hb := bounds_u32 (hw zs[j] (List.getElem_mem hj2))
      have e1 : zs.getD j 0 = zs[j] := by rw [List.getD_eq_getElem?_getD, List.getElem?_eq_getElem hj2]; rfl
      have e2 : ((zs.take len).map Int.toNat).getD j 0 = zs[j].toNat := by
        rw [List.getD_eq_getElem?_getD, List.getElem?_map, List.getElem?_take_of_lt hj, List.getElem?_eq_getElem hj2]; rfl
      rw [e1, e2]
      unfold Big.d32
      rw [Int.toNat_of_nonneg hb.1])
    rw [hlen] at key
    exact key
theorem bool_of_trod (h : DataW.trod enc Tryz.prog W 0 (fun _ => true) true fuel 4 [v] = some y) : ∃ b, v = .bool b := by
  obtain ⟨b, hb, _⟩ := DataW.trod_bool Tryz.underlying4 h
  injection hb with hb
  exact ⟨b, hb⟩
end
section
variable {H : Type} {enc : TypeId × Value → H} {W : World} {v : Value} {d : DataW H} {p : List MemPlace} {r : Reach} {b0 : Nat}
set_option maxRecDepth 100000 in
theorem open_u32s (hv : Value.okWide Tryz.prog W r b0 46 v) (h : DataW.Trod enc Tryz.prog W 0 (fun _ => true) true 46 v d p) : ∃ xs, Big.Arr W v xs := by
  obtain ⟨a, len, cap, rfl⟩ := okWide_slice Tryz.underlying46 hv
  obtain ⟨fuel, hf⟩ := h
  obtain ⟨xs, hxs⟩ := arr_of_trod (by simpa [Value.cells] using hf)
  exact ⟨xs, hxs⟩
end
theorem byte_of_wf {z : Int} (w : (Lit.int .u8 z).wf = true) : ∃ d : UInt8, z = (d.toNat : Int) := by
  have h := bounds_u8 w
  refine ⟨UInt8.ofNat z.toNat, ?_⟩
  have e : (UInt8.ofNat z.toNat).toNat = z.toNat % 2 ^ 8 := UInt8.toNat_ofNat'
  rw [e, Nat.mod_eq_of_lt (by omega)]
  omega
theorem u64_of_wf {z : Int} (w : (Lit.int .u64 z).wf = true) : ∃ n : Nat, n < 18446744073709551616 ∧ z = (n : Int) := by
  have h := bounds_u64 w
  exact ⟨z.toNat, by omega, by omega⟩
theorem str_of_bytes {s : ByteArray} (h : s.size ≤ maxLen) : ∃ l : List UInt8, l.length ≤ maxLen ∧ s = ⟨l.toArray⟩ := by
  refine ⟨s.data.toList, by simpa using h, ?_⟩
  apply ByteArray.ext
  simp
end Go.Proofs.YtoehdoghghpmjaaGreatDoor
/- What the condition on the listed variables gives the walks of commands. -/
namespace Go.Proofs.YtoehdoghghpmjaaGreatDoor
open Go.ChangeShapes Go.WideShapes Go.ChangeAt Go.RowKit
theorem gSynC : Tryz.prog.globalNamed "strconv.ErrSyntax" = some 4 := by kernel_rfl
theorem tSynC : (Tryz.prog.globals[4]?).map (·.type) = some 111 := by kernel_rfl
theorem gRanC : Tryz.prog.globalNamed "strconv.ErrRange" = some 5 := by kernel_rfl
theorem tRanC : (Tryz.prog.globals[5]?).map (·.type) = some 111 := by kernel_rfl
theorem gPow : Tryz.prog.globalNamed "internal/strconv.uint64pow10" = some 3 := by kernel_rfl
theorem tPow : (Tryz.prog.globals[3]?).map (·.type) = some 148 := by kernel_rfl
theorem cellsPow : Tryz.prog.cellsOf 148 = 20 := by kernel_rfl
theorem cellsU64 : Tryz.prog.cellsOf 73 = 1 := by kernel_rfl
theorem cmdEnv_of_laid {W : World} {l : List (String × DataW Unit)} (i j k : Nat) (h : laidMetH Tryz.prog l W) (hp : (l.all fun x => x.2.handleName?.isNone) = true) (hi : l[i]? = some ("strconv.ErrRange", Rows.laid_strconv_ErrRange)) (hj : l[j]? = some ("strconv.ErrSyntax", Rows.laid_strconv_ErrSyntax)) (hk : l[k]? = some ("internal/strconv.uint64pow10", Rows.laid_internal_strconv_uint64pow10)) : Big.CmdEnv W := by
  have key : ∀ (n : String) (g : Nat) (d : DataW Unit) (k : Nat) (nm : String) (x : DataW Unit), d = .iface nm x → Tryz.prog.globalNamed n = some g → (Tryz.prog.globals[g]?).map (·.type) = some 111 → l[k]? = some (n, d) → Big.ErrC W g := by
    rintro n g d k nm x rfl hg ht hk
    obtain ⟨g1, t1, cs1, f1, p1, hg1, ht1, hv1, hd1⟩ := laid_at k h hp hk
    obtain rfl := Option.some.inj (hg.symm.trans hg1)
    obtain rfl := Option.some.inj (ht.symm.trans ht1)
    obtain ⟨_, u, v, hcs, _, _⟩ := iface_of_trod Tryz.underlying111 hd1
    have hc := World.var?_cell hg1 hv1 0
    have h0 : cs1[0]? = some (.iface u v) := by
      rw [← Array.getElem?_toList, hcs]
      rfl
    rw [h0] at hc
    exact ⟨_, hc, .inr ⟨u, v, rfl⟩⟩
  refine ⟨key _ _ _ j _ _ rfl gSynC tSynC hj, key _ _ _ i _ _ rfl gRanC tRanC hi, ?_⟩
  obtain ⟨g1, t1, cs1, f1, p1, hg1, ht1, hv1, hd1⟩ := laid_at k h hp hk
  obtain rfl := Option.some.inj (gPow.symm.trans hg1)
  obtain rfl := Option.some.inj (tPow.symm.trans ht1)
  have hcs := Lib.cells_of_tab (zs := Lib.pow10Tab) (k := .u64) Tryz.underlying148 Tryz.underlying73 cellsU64 cellsPow (show DataW.trod _ Tryz.prog W 0 _ false f1 148 cs1.toList = some (Lib.tabData .u64 Lib.pow10Tab, p1) from hd1)
  show W.var? Tryz.prog "internal/strconv.uint64pow10" = some _
  rw [hv1]
  congr 1
  apply Array.ext'
  rw [hcs]
end Go.Proofs.YtoehdoghghpmjaaGreatDoor
/- A list of integers that came in. -/
namespace Go.Proofs.YtoehdoghghpmjaaGreatDoor
open Go.ChangeShapes Go.WideShapes Go.ChangeAt Go.RowKit
theorem cellsOf_i64 : Tryz.prog.cellsOf 3 = 1 := by kernel_rfl
section
variable {H : Type} {enc : TypeId × Value → H} {W : World} {v : Value} {d : DataW H} {p : List MemPlace} {r : Reach} {b0 : Nat}
theorem nums_of_trod {fuel : Nat} {y : DataW H × List MemPlace} (h : DataW.trod enc Tryz.prog W 0 (fun _ => true) true fuel 22 [v] = some y) : ∃ xs, Big.ArrI W v xs := by
  rcases open_ints Tryz.underlying22 Tryz.underlying3 cellsOf_i64 h with ⟨hv, _⟩ | ⟨a, len, cap, zs, hv, _, hl, hm, hz, _, hc, hw⟩
  · injection hv with hv
    subst hv
    exact ⟨[], ⟨(fun x hx => by cases hx), Big.RArr.none_ W⟩⟩
  · injection hv with hv
    subst hv
    simp only [if_true] at hz
    refine ⟨zs.take len, fun x hx => bounds_i64 (hw x (List.mem_of_mem_take hx)), some a, cap, by simp; omega, by simp; omega, hm, fun hp => ?_⟩
    simp only [List.length_map, List.length_take] at hp
    obtain ⟨b, off, rfl, hcell⟩ := ints_at hc (by omega)
    have h0 := hcell 0 (by omega)
    refine ⟨b, off, rfl, World.block_lt_of_cell? W _ h0, fun j u hj => ?_⟩
    rw [List.getElem?_map] at hj
    have hjl : j < len := by
      rcases Nat.lt_or_ge j len with h | h
      · exact h
      · rw [List.getElem?_eq_none (by simp; omega)] at hj; cases hj
    have hj2 : j < zs.length := by omega
    rw [List.getElem?_take_of_lt hjl, List.getElem?_eq_getElem hj2] at hj
    injection hj with hj
    subst hj
    rw [hcell j (by omega)]
    have e1 : zs.getD j 0 = zs[j] := by rw [List.getD_eq_getElem?_getD, List.getElem?_eq_getElem hj2]; rfl
    rw [e1]
    rfl
set_option maxRecDepth 100000 in
theorem open_nums (hv : Value.okWide Tryz.prog W r b0 22 v) (h : DataW.Trod enc Tryz.prog W 0 (fun _ => true) true 22 v d p) : ∃ xs, Big.ArrI W v xs := by
  obtain ⟨a, len, cap, rfl⟩ := okWide_slice Tryz.underlying22 hv
  obtain ⟨fuel, hf⟩ := h
  obtain ⟨xs, hxs⟩ := nums_of_trod (by simpa [Value.cells] using hf)
  exact ⟨xs, hxs⟩
end
end Go.Proofs.YtoehdoghghpmjaaGreatDoor
