import Derived.Test.YtgopljllknbelaaGreatDoorM30
import Derived.Deep.RegionLaw
import Derived.Test.YtgopljllknbelaaGreatDoorM9
/- The program's Names. -/
namespace Go.Proofs.YtgopljllknbelaaGreatDoor
namespace Big
open Go.RowKit
set_option maxHeartbeats 2000000 in
set_option maxRecDepth 100000 in
theorem pnames_any (w : World) (v : Value) (l : List Nd) (h : RNd w v l) (hn : l.length ≤ 1000000) (htx : ∀ x ∈ l, x.text.length ≤ 1073741824) :
    Calls Tryz.prog 17 #[v] w fun e w' => ∃ v', e = .returned v' ∧ OwnS w.heap.size w' v' (sortS (namesOf l)) ∧ Ext w w' := by
  obtain ⟨ns, hns⟩ : ∃ ns, ns = namesOf l := ⟨_, rfl⟩
  have HNS := Lib.hid hns
  rw [← hns]
  clear hns
  obtain ⟨A, c, rfl, H1⟩ := h
  have HH := Lib.hid H1
  have HTX := Lib.hid htx
  clear H1 htx
  obtain ⟨n, hnn⟩ : ∃ n, n = l.length := ⟨_, rfl⟩
  have HN := Lib.hid hnn
  rw [← hnn] at hn ⊢
  clear hnn
  go_enter Tryz.func17, Tryz.ntmps17
  go_wp2_with fail
  go_loopw [3, 8] (fun s3 s8 wr => ∃ k : Nat, k ≤ n ∧ s8 = .int .i64 (k : Int) ∧ OwnS w.heap.size wr s3 (namesOf (l.take k)) ∧ Ext w wr) (fun _ s8 _ => n - (intOf s8).toNat)
  case atStart => exact ⟨0, Nat.zero_le _, rfl, OwnS.none_ _ _, Ext.refl w⟩
  case round =>
    obtain ⟨k, hk, rfl, hown, hext⟩ := hrel
    have HO := Lib.hid hown
    have HX := Lib.hid hext
    obtain ⟨m, A3, c3, rfl⟩ := hown.arr.shape
    have hml := namesOf_len (l.take k)
    rw [List.length_take] at hml
    by_cases hlt : k < n
    · have hit : k < l.length := by rw [← HN.out]; exact hlt
      obtain ⟨g, o, rfl, hgw, hc⟩ := HH.out (by omega)
      obtain ⟨k0, k1, k2, k3, k4⟩ := hc k hit
      rw [← hext.cell hgw] at k0 k1 k2 k3 k4
      have HT := Lib.hid (namesOf_take hit)
      have hw1 : IntKind.i64.wrap ((k : Int) + 1) = (k : Int) + 1 := IntWalk.i64_in _ (by omega)
      have hki : (k : Int) < (n : Int) := by omega
      have hk0 : (0 : Int) ≤ (k : Int) := by omega
      generalize l[k].a = xa at *
      generalize l[k].b = xb at *
      generalize l[k].n = xn at *
      generalize l[k].text = xt at *
      generalize l[k].kind = xk at *
      obtain ⟨tb, htb⟩ : ∃ tb : ByteArray, tb = ⟨xt.toArray⟩ := ⟨_, rfl⟩
      have hst : str xt = .string tb := by rw [htb]; rfl
      have HFR : Hid (∀ o : Obj, ArrS ((wr.alloc o).alloc (.cells #[.string tb] 9)) (.slice (some ⟨wr.heap.size + 1, 0, none⟩) 1 1) [xt]) := Lib.hid (fun o => by
        rw [← hst]
        have := ArrS.fresh1 (wr.alloc o) xt
        rw [show (wr.alloc o).heap.size = wr.heap.size + 1 by simp] at this
        exact this)
      rw [hst] at k4
      clear hown hext hc hst htb
      have HLM : Hid ((namesOf (l.take k)).length + [xt].length ≤ 2147483648) := Lib.hid (by rw [List.length_singleton]; omega)
      clear hml
      by_cases h2 : xk = 2
      · subst h2
        rw [if_pos rfl] at HT
        have hgy : w.heap.size ≤ wr.heap.size := HX.out.size
        go_wp2_with (at_builtin; go_must (refine wpList_appendS (B := w.heap.size) rfl _ _ rfl rfl (HO.out.ext (((Ext.refl _).alloc _).alloc _)) rfl (HFR.out _) HLM.out (by simp; omega) ?_; intro v' w' hown' hgr hb1))
        have HE := Lib.hid (And.intro hown' (((HX.out.alloc _).alloc _).more hb1))
        clear hown' hgr hb1
        go_roundw
        case rel => exact ⟨k + 1, by omega, by go_num, by rw [HT.out]; exact HE.out.1, HE.out.2⟩
        case measure => simp [intOf]; omega
      · have hb : (xk == 2) = false := by rw [beq_eq_false_iff_ne]; exact h2
        rw [if_neg h2, List.append_nil] at HT
        clear h2
        go_wp2_with fail
        go_roundw
        case rel => exact ⟨k + 1, by omega, by go_num, by rw [HT.out]; exact HO.out.ext ((Ext.refl _).alloc _), HX.out.alloc _⟩
        case measure => simp [intOf]; omega
    · obtain rfl : k = n := by omega
      have HA : Hid (namesOf (l.take k) = ns) := Lib.hid (by rw [HNS.out, HN.out, List.take_length])
      rw [HA.out] at HO
      have hnl := namesOf_len l
      have HL : Hid (ns.length ≤ 1000000) := Lib.hid (by rw [← HN.out, ← HNS.out] at hnl; omega)
      have HTN : Hid (∀ x ∈ ns, x.length ≤ 1073741824) := Lib.hid (fun x hx => by
        rw [HNS.out] at hx
        unfold namesOf at hx
        obtain ⟨y, hy, rfl⟩ := List.mem_map.1 hx
        exact HTX.out y (List.mem_filter.1 hy).1)
      have hgy : w.heap.size ≤ wr.heap.size := HX.out.size
      clear hown hext hml hnl HA hlt
      go_wp2_with fail
      refine (sortS_any w.heap.size wr _ ns HO.out hgy (by have := HL.out; omega)).mono ?_
      rintro e w1 ⟨rfl, ho1, hb1⟩
      have HO1 := Lib.hid ho1
      have HX1 := Lib.hid (HX.out.more hb1)
      have hgz : w.heap.size ≤ w1.heap.size := HX1.out.size
      clear ho1 hb1
      go_wp2_with fail
      refine (compactS_any w.heap.size w1 _ _ HO1.out hgz (by rw [List.length_mergeSort]; have := HL.out; omega)).mono ?_
      rintro e w2 ⟨v2, rfl, ho2, hb2⟩
      rw [compact_sort] at ho2
      have HE := Lib.hid (And.intro ho2 (HX1.out.more hb2))
      obtain ⟨n2, A2, c2, rfl⟩ := ho2.arr.shape
      clear ho2 hb2
      go_wp2_with fail
      go_ret
      exact ⟨_, rfl, HE.out.1, HE.out.2⟩
end Big
end Go.Proofs.YtgopljllknbelaaGreatDoor
/- The document's Sorted. Printed by a program. -/
namespace Go.Proofs.YtgopljllknbelaaGreatDoor
namespace Big
open Go.RowKit
theorem bytesLess_dec : ∀ (x y : List UInt8), Op.bytesLess x y = decide (x < y)
  | [], [] => by simp [Op.bytesLess]
  | _ :: _, [] => by simp [Op.bytesLess]
  | [], _ :: _ => by simp [Op.bytesLess]
  | a :: x, b :: y => by
    rw [Op.bytesLess, bytesLess_dec x y]
    by_cases h1 : a < b
    · simp [h1, List.cons_lt_cons_iff]
    · by_cases h2 : a = b
      · subst h2
        simp
      · simp [h1, h2, List.cons_lt_cons_iff]
@[go_sem] theorem lss_str (a b : List UInt8) : binOp .lss 9 (str a) (str b) = pure (.bool (decide (a < b))) := by
  unfold str; rw [binOp_string_lss, ByteArray.toList_mk, ByteArray.toList_mk, bytesLess_dec]
theorem insS_at : ∀ (out : List Tx) (i : Nat) (s : Tx), (∀ j (hj : j < out.length), j < i → out[j] < s) → i ≤ out.length → (∀ hi : i < out.length, ¬ out[i] < s ∧ out[i] ≠ s) → insS s out = out.take i ++ s :: out.drop i
  | [], i, s, _, hi, _ => by
    have : i = 0 := by simpa using hi
    subst this
    rfl
  | x :: xs, 0, s, _, _, h => by
    have h2 := h (by simp)
    simp only [List.getElem_cons_zero] at h2
    unfold insS
    rw [if_neg h2.1, if_neg h2.2]
    rfl
  | x :: xs, i + 1, s, h, hi, h2 => by
    have h0 := h 0 (by simp) (by omega)
    simp only [List.getElem_cons_zero] at h0
    unfold insS
    rw [if_pos h0, insS_at xs i s (fun j hj hji => by have := h (j + 1) (by simpa using hj) (by omega); simpa using this) (by simpa using hi) (fun hi2 => by have := h2 (by simpa using hi2); simpa using this)]
    rfl
theorem insS_same : ∀ (out : List Tx) (i : Nat) (s : Tx) (hi : i < out.length), (∀ j (hj : j < out.length), j < i → out[j] < s) → out[i] = s → insS s out = out
  | x :: xs, 0, s, _, _, h => by
    simp only [List.getElem_cons_zero] at h
    subst h
    unfold insS
    rw [if_neg (tx_irrefl _), if_pos rfl]
  | x :: xs, i + 1, s, hi, h, h2 => by
    have h0 := h 0 (by simp) (by omega)
    simp only [List.getElem_cons_zero] at h0
    unfold insS
    rw [if_pos h0, insS_same xs i s (by simpa using hi) (fun j hj hji => by have := h (j + 1) (by simpa using hj) (by omega); simpa using this) (by simpa using h2)]
theorem sortS_snoc (ls : List Tx) (s : Tx) : sortS (ls ++ [s]) = insS s (sortS ls) := by unfold sortS; rw [List.foldl_append]; rfl
theorem insS_len (s : Tx) : ∀ l : List Tx, (insS s l).length ≤ l.length + 1
  | [] => by simp [insS]
  | x :: xs => by
    unfold insS
    split
    · have := insS_len s xs; simp only [List.length_cons]; omega
    · split <;> simp
theorem sortS_len (ls : List Tx) : (sortS ls).length ≤ ls.length := by
  have key : ∀ (l out : List Tx), (l.foldl (fun out s => insS s out) out).length ≤ l.length + out.length := by
    intro l
    induction l with
    | nil => intro out; simp
    | cons x l ih =>
      intro out
      have h1 := ih (insS x out)
      have h2 := insS_len x out
      rw [List.foldl_cons, List.length_cons]
      omega
  have := key ls []
  rw [List.length_nil, Nat.add_zero] at this
  exact this
theorem OwnS.empty (B : Nat) (w : World) (A : Option Addr) : OwnS B w (.slice A 0 0) [] := ROwn.empty _ B w A
theorem step_appendS {w : World} {v src : Value} {xs ys : List (List UInt8)} {B : Nat} {ops : Array Oper} {o : Oper} {a : Act} {K : Act → World → Prop} {Q : Exit → Act → World → Prop} {E : Prop} (hw : Region.wanted o (yielded ops a.tmps) = true) (s x : Operand)
    (ho : o.op = .call { callee := .builtin .append, args := #[s, x], argTypes := #[32, 32] })
    (hs : a.eval s = v) (hown : OwnS B w v xs) (hx : a.eval x = src) (hsrc : ArrS w src ys) (hn : xs.length + ys.length ≤ 2147483648) (hbase : B ≤ w.heap.size)
    (h : ∀ v' w', OwnS B w' v' (xs ++ ys) → w.grownBy w' (rowOf v) → Below B w w' → K (a.put o.dst v') w') : if Region.wanted o (yielded ops a.tmps) = true then Oper.wp Tryz.prog o a w K Q else E := by
  rw [if_pos hw]
  obtain ⟨i0, hi, hz0, hz1, hz2⟩ := info_parts info_str
  refine wp_append_any s x 32 ho 9 i0 _ 16 Tryz.underlying32 hi hz0 hz1 hz2 rfl hs hown hx hsrc ones_str (by simp only [List.length_map]; unfold maxLen; omega) (by simp only [List.length_map]; omega) hbase (fun v' w' h1 h2 h3 => h v' w' ?_ h2 h3)
  unfold OwnS
  rw [List.map_append]
  exact h1
theorem Ext.of_none {w w' : World} (h : w.grownBy w' none) : Ext w w' := ⟨h.os, h.tape, h.output, h.size, fun k hk => h.block k hk (by simp)⟩
theorem td_len (out : List Tx) (i : Nat) (h : out.length ≤ 1000000) : (out.take i).length ≤ 1073741824 ∧ (out.take i).length + 1 + (out.drop i).length ≤ 1073741824 := by
  rw [List.length_take, List.length_drop]
  omega
theorem slice_to_run {P : Program} (W : World) (T e : TypeId) (A : Option Addr) (n c i : Nat) (hT : P.underlying T = some (.slice e)) (hE : P.elem T = e) (i0 : TypeInfo) (hi : P.info? e = some i0) (hz : i0.size = 1) (h : i ≤ c) :
    (Instr.slice T (.slice A n c) none (some (.int .i64 (i : Int))) none).run P W = .ok (.slice A i c) W := by
  rw [run_slice_h W T A n c (by rw [hE]; exact hT) .i64 (i : Int) (by omega) (by omega)]
  have hs : (sizeOf (P.elem T)).run P W = .ok 1 W := by rw [hE]; simp [sizeOf, typeInfo, hi, hz]
  rw [hs]
  simp only [Result.andThen, sliced, Int.toNat_natCast, Nat.zero_mul, Nat.sub_zero]
  split
  · rfl
  · cases A <;> simp [Addr.add]
theorem slice_from_run {P : Program} (W : World) (T e : TypeId) (A : Option Addr) (n c i : Nat) (hT : P.underlying T = some (.slice e)) (hE : P.elem T = e) (i0 : TypeInfo) (hi : P.info? e = some i0) (hz : i0.size = 1) (h : i ≤ n) :
    (Instr.slice T (.slice A n c) (some (.int .i64 (i : Int))) none none).run P W = .ok (.slice (if c = i then A else A.map (·.add (i * 1))) (n - i) (c - i)) W := by
  rw [run_slice_l W T A n c (by rw [hE]; exact hT) .i64 (i : Int) (by omega) (by omega)]
  have hs : (sizeOf (P.elem T)).run P W = .ok 1 W := by rw [hE]; simp [sizeOf, typeInfo, hi, hz]
  rw [hs]
  simp only [Result.andThen, sliced, Int.toNat_natCast]
theorem slice_to {B : Nat} {w : World} {A : Option Addr} {m c : Nat} {out : List (List UInt8)} (h : OwnS B w (.slice A m c) out) (i : Nat) (hi : i ≤ out.length) :
    ∃ v1, (∀ W : World, (Instr.slice 32 (.slice A m c) none (some (.int .i64 (i : Int))) none).run Tryz.prog W = .ok v1 W) ∧ ∀ W, Ext w W → ArrS W v1 (out.take i) := by
  obtain ⟨A', c', he, h2, h3, h4⟩ := h.arr
  injection he with e1 e2 e3
  subst e1 e2 e3
  rw [List.length_map] at h2
  refine ⟨.slice A i c, fun W => ?_, fun W hx => ?_⟩
  · have hcl : Tryz.prog.elem 32 = 9 := by kernel_rfl
    obtain ⟨i0, hi0, _, hz1, _⟩ := info_parts info_str
    exact slice_to_run W 32 9 A _ c i Tryz.underlying32 hcl i0 hi0 hz1 (by omega)
  · have hl : (out.take i).length = i := by rw [List.length_take]; omega
    refine ⟨A, c, by rw [List.length_map, hl], by rw [List.length_map, hl]; omega, h3, fun hp => ?_⟩
    rw [List.length_map, hl] at hp
    rw [List.length_map] at h4
    obtain ⟨b, o, hb, hlt, hc⟩ := h4 (by omega)
    refine ⟨b, o, hb, Nat.lt_of_lt_of_le hlt hx.size, fun j u hj => (hx.cell hlt).trans (hc j u ?_)⟩
    rw [List.map_take] at hj
    rw [List.getElem?_take] at hj
    split at hj
    · exact hj
    · cases hj
theorem slice_from {B : Nat} {w : World} {A : Option Addr} {m c : Nat} {out : List (List UInt8)} (h : OwnS B w (.slice A m c) out) (i : Nat) (hi : i ≤ out.length) :
    ∃ v1, (∀ W : World, (Instr.slice 32 (.slice A m c) (some (.int .i64 (i : Int))) none none).run Tryz.prog W = .ok v1 W) ∧ ∀ W, Ext w W → ArrS W v1 (out.drop i) := by
  obtain ⟨A', c', he, h2, h3, h4⟩ := h.arr
  injection he with e1 e2 e3
  subst e1 e2 e3
  rw [List.length_map] at h2
  have hcl : Tryz.prog.elem 32 = 9 := by kernel_rfl
  obtain ⟨i0, hi0, _, hz1, _⟩ := info_parts info_str
  refine ⟨.slice (if c = i then A else A.map (·.add (i * 1))) ((out.map str).length - i) (c - i), fun W => ?_, fun W hx => ?_⟩
  · exact slice_from_run W 32 9 A _ c i Tryz.underlying32 hcl i0 hi0 hz1 (by rw [List.length_map]; omega)
  · have hl : (out.drop i).length = out.length - i := by rw [List.length_drop]
    rw [List.length_map] at h4 ⊢
    refine ⟨_, c - i, by rw [List.length_map, hl], by rw [List.length_map, hl]; omega, by omega, fun hp => ?_⟩
    rw [List.length_map, hl] at hp
    obtain ⟨b, o, rfl, hlt, hc⟩ := h4 (by omega)
    rw [if_neg (by omega)]
    refine ⟨b, o + i, by simp [Addr.add], Nat.lt_of_lt_of_le hlt hx.size, fun j u hj => (hx.cell hlt).trans ?_⟩
    rw [Nat.add_assoc]
    refine hc (i + j) u ?_
    rw [List.map_drop, List.getElem?_drop] at hj
    exact hj
set_option maxHeartbeats 4000000 in
set_option maxRecDepth 100000 in
theorem sorted_any (w : World) (v : Value) (ls : List (List UInt8)) (h : ArrS w v ls) (hn : ls.length ≤ 1000000) (_htx : ∀ x ∈ ls, x.length ≤ 1073741824) :
    Calls Tryz.prog 34 #[v] w fun e w' => ∃ v', e = .returned v' ∧ OwnS w.heap.size w' v' (sortS ls) ∧ Ext w w' := by
  obtain ⟨A, c, rfl, hc2, hm2, hcell⟩ := h.open
  have HC := Lib.hid hcell
  clear hcell h hc2 hm2 _htx
  obtain ⟨n, hnn⟩ : ∃ n, n = ls.length := ⟨_, rfl⟩
  have HN := Lib.hid hnn
  rw [← hnn] at hn ⊢
  clear hnn
  obtain ⟨B, hB⟩ : ∃ B, B = w.heap.size := ⟨_, rfl⟩
  have HBB : Hid (B ≤ w.heap.size) := Lib.hid (by omega)
  rw [← hB]
  clear hB
  go_enter Tryz.func34, Tryz.ntmps34
  go_wp2_with fail
  go_loopw [3, 9] (fun s3 s9 wr => ∃ k : Nat, k ≤ n ∧ s9 = .int .i64 (k : Int) ∧ OwnS B wr s3 (sortS (ls.take k)) ∧ Ext w wr) (fun _ s9 _ => n - (intOf s9).toNat)
  case atStart => exact ⟨0, Nat.zero_le _, rfl, OwnS.none_ _ _, Ext.refl w⟩
  case round =>
    obtain ⟨k, hk, rfl, hown, hext⟩ := hrel
    obtain ⟨m, A3, c3, rfl⟩ := hown.arr.shape
    have hm := hown.arr.len
    have HW1 : Hid (k < n → IntKind.i64.wrap ((k : Int) + 1) = (k : Int) + 1) := Lib.hid (fun h => IntWalk.i64_in _ (by omega))
    have hol := sortS_len (ls.take k)
    rw [List.length_take] at hol
    have hol2 : (sortS (ls.take k)).length ≤ 1000000 := by omega
    clear hol
    generalize wr = wa at *
    have HXA := Lib.hid hext
    by_cases hlt : k < n
    · have hit : k < ls.length := by rw [← HN.out]; exact hlt
      obtain ⟨b, o, rfl, hbw, hcs⟩ := HC.out (by omega)
      have hx := (hext.cell hbw).trans (hcs k hit)
      have HT : Hid (sortS (ls.take (k + 1)) = insS ls[k] (sortS (ls.take k))) := Lib.hid (by rw [List.take_succ_eq_append_getElem hit, sortS_snoc])
      generalize ls[k] = s at *
      obtain ⟨out, hout⟩ : ∃ out, sortS (ls.take k) = out := ⟨_, rfl⟩
      have HSO := Lib.hid hout
      rw [hout] at hown hm hol2
      have HO := Lib.hid hown
      have hm1 : m ≤ out.length := by omega
      have hm2 : out.length ≤ m := by omega
      have hw1 := Lib.hid (HW1.out hlt)
      clear hm
      have HFR : Hid (∀ W : World, ArrS (W.alloc (.cells #[str s] 9)) (.slice (some ⟨W.heap.size, 0, none⟩) 1 1) [s]) := Lib.hid (fun W => ArrS.fresh1 W s)
      have HFR2 : Hid (∀ o : Obj, ArrS ((wa.alloc o).alloc (.cells #[str s] 9)) (.slice (some ⟨wa.heap.size + 1, 0, none⟩) 1 1) [s]) := Lib.hid (fun o => by
        have := ArrS.fresh1 (wa.alloc o) s
        rw [show (wa.alloc o).heap.size = wa.heap.size + 1 by simp] at this
        exact this)
      have hki : (k : Int) < (n : Int) := by omega
      have hk0 : (0 : Int) ≤ (k : Int) := by omega
      clear hown hext hcs hout
      go_upto_block 5 with fail
      go_loopw [6] (fun s6 wq => ∃ i : Nat, i ≤ m ∧ s6 = .int .i64 (i : Int) ∧ Hid (∀ j (hj : j < out.length), j < i → out[j] < s) ∧ wa = wq) (fun s6 _ => m - (intOf s6).toNat)
      case atStart => exact ⟨0, Nat.zero_le _, rfl, Lib.hid (fun j _ hj => absurd hj (Nat.not_lt_zero j)), rfl⟩
      case round =>
        obtain ⟨i, hi, rfl, HB4, rfl⟩ := hrel
        have hi0 : (0 : Int) ≤ (i : Int) := by omega
        by_cases hil : i < m
        · obtain ⟨A', c', hv, _, _, hoc⟩ := HO.out.arr.open
          injection hv with hv1 hv2 hv3
          subst hv1
          clear hv2 hv3
          have hio : i < out.length := by omega
          obtain ⟨bo, oo, rfl, _, hoc⟩ := hoc (by omega)
          have hy := hoc i hio
          have HNX : Hid (out[i] < s → ∀ j (hj : j < out.length), j < i + 1 → out[j] < s) := Lib.hid (fun h j hj hji => by
            rcases Nat.lt_or_ge j i with h2 | h2
            · exact HB4.out j hj h2
            · have : j = i := by omega
              subst this
              exact h)
          have HSM : Hid (out[i] = s → insS s out = out) := Lib.hid (fun h => insS_same out i s hio HB4.out h)
          have HNE : Hid (¬ out[i] < s → out[i] ≠ s → ∀ hi : i < out.length, ¬ out[i] < s ∧ out[i] ≠ s) := Lib.hid (fun h1 h2 _ => ⟨h1, h2⟩)
          have z1 : decide (i < m) = true := decide_eq_true hil
          have z1i : (i : Int) < (m : Int) := by omega
          have z2 : ((i : Int) == (m : Int)) = false := by rw [beq_eq_false_iff_ne]; omega
          have z3 : (i == m) = false := by rw [beq_eq_false_iff_ne]; omega
          have HWI : Hid (IntKind.i64.wrap ((i : Int) + 1) = (i : Int) + 1) := Lib.hid (IntWalk.i64_in _ (by omega))
          clear hoc
          generalize out[i] = x at *
          by_cases hxs : x < s
          · have hd : decide (x < s) = true := decide_eq_true hxs
            have HB5 := Lib.hid (HNX.out hxs)
            clear hxs
            have hwi := HWI.out
            go_wp2_with fail
            clear hwi
            go_roundw
            case rel => exact ⟨i + 1, by omega, by go_num, HB5, trivial⟩
            case measure => simp [intOf]; omega
          · have hd : decide (x < s) = false := decide_eq_false hxs
            by_cases hxe : x = s
            · have HS2 := Lib.hid (HSM.out hxe)
              have he : (x == s) = true := by rw [hxe]; exact beq_self_eq_true _
              clear hxs hxe
              have hwk := hw1.out
              go_wp2_with fail
              clear hwk
              go_roundw
              case rel => exact ⟨k + 1, by omega, by go_num, by rw [HT.out, HSO.out, HS2.out]; exact HO.out, HXA.out⟩
              case measure => simp [intOf]; omega
            · have he : (x == s) = false := by rw [beq_eq_false_iff_ne]; exact hxe
              have HN2 := Lib.hid (HNE.out hxs hxe)
              clear hxs hxe
              have HINS := Lib.hid (insS_at out i s HB4.out (by omega) (HN2.out))
              obtain ⟨v1, hs1, hp1⟩ := slice_to (B := B) (w := wa) HO.out i (by omega)
              obtain ⟨v2, hs2, hp2⟩ := slice_from (B := B) (w := wa) HO.out i (by omega)
              have HP1 := Lib.hid hp1
              have HP2 := Lib.hid hp2
              have HLT : Hid ((out.take i).length ≤ 1073741824 ∧ (out.take i).length + 1 + (out.drop i).length ≤ 1073741824) := Lib.hid (td_len out i (by omega))
              generalize out.take i = o1 at *
              generalize out.drop i = o2 at *
              clear hp1 hp2
              go_upto_region 9 with fail
              go_region_law (first
                | (refine step_appendS rfl (.tmp 39) (.tmp 42) rfl rfl (OwnS.empty wa.heap.size _ _) rfl (HP1.out _ (by repeat (first | exact Ext.refl _ | (with_reducible apply Ext.drew) | (with_reducible apply Ext.alloc)))) (by have := HLT.out; simp; omega) (by first | (simp; done) | (simp; omega)) ?_; intro v3 w3 ho3 hg3 hb3; have HX3 := Lib.hid (Ext.of_none hg3); have HY3 : Hid (Ext wa w3) := Lib.hid (Ext.trans (by repeat (first | exact Ext.refl _ | (with_reducible apply Ext.drew) | (with_reducible apply Ext.alloc))) HX3.out); rw [List.nil_append] at ho3; have HO3 := Lib.hid ho3; clear ho3 hg3 hb3)
                | (refine step_appendS rfl (.tmp 43) (.tmp 45) rfl rfl (HO3.out.ext (by repeat (first | exact Ext.refl _ | (with_reducible apply Ext.drew) | (with_reducible apply Ext.alloc)))) rfl (show ArrS _ _ [s] from ?_) (by have := HLT.out; simp; omega) (by have := HY3.out.size; first | omega | (simp; done) | (simp; omega)) ?_; (first | exact HFR.out _ | (focus (refine ArrS.ext (HFR.out w3) ?_; (repeat (first | exact Ext.refl _ | (with_reducible apply Ext.drew) | (with_reducible apply Ext.alloc))); done)) | (focus (refine ArrS.ext (ArrS.ext (HFR2.out (.cells #[] 9)) ?_) HX3.out; (repeat (first | exact Ext.refl _ | (with_reducible apply Ext.drew) | (with_reducible apply Ext.alloc))); done)) | (focus (refine ArrS.ext (ArrS.ext (HFR.out wa) ?_) HX3.out; (repeat (first | exact Ext.refl _ | (with_reducible apply Ext.drew) | (with_reducible apply Ext.alloc))); done))); intro v4 w4 ho4 hg4 hb4; have HY4 : Hid (Ext wa w4) := Lib.hid (Ext.more (Ext.trans HY3.out (by repeat (first | exact Ext.refl _ | (with_reducible apply Ext.drew) | (with_reducible apply Ext.alloc)))) hb4); have HO4 := Lib.hid ho4; clear ho4 hg4 hb4)
                | (refine step_appendS (B := wa.heap.size) (xs := o1 ++ [s]) (ys := o2) rfl (.tmp 46) (.tmp 49) rfl rfl HO4.out rfl (HP2.out _ HY4.out) ?_ ?_ ?_; (have := HLT.out; simp; omega); (have := HY4.out.size; omega); intro v5 w5 ho5 hg5 hb5; have HY5 : Hid (Ext wa w5) := Lib.hid (Ext.more HY4.out hb5); have HO5 := Lib.hid ho5; clear ho5 hg5 hb5))
              all_goals
                have HFIN : Hid (OwnS B w5 v5 (sortS (ls.take (k + 1)))) := Lib.hid (by
                  rw [HT.out, HSO.out, HINS.out]
                  have h5 := HO5.out.mono (Nat.le_trans HBB.out HXA.out.size)
                  rw [List.append_assoc] at h5
                  exact h5)
                obtain ⟨n5, A5, c5, rfl⟩ := HO5.out.arr.shape
                have HX5 := Lib.hid (HXA.out.trans HY5.out)
                have hwk := hw1.out
                go_wp2_with fail
                clear hwk
                go_roundw
                case rel => exact ⟨k + 1, by omega, by go_num, HFIN.out, HX5.out⟩
                case measure => simp [intOf]; omega
        · have z1 : decide (i < m) = false := decide_eq_false hil
          obtain rfl : i = m := by omega
          have z1i : ¬ (i : Int) < (i : Int) := by omega
          have z2 : ((i : Int) == (i : Int)) = true := by simp
          have z3 : (i == i) = true := by simp
          have HINS := Lib.hid (insS_at out i s HB4.out (by omega) (fun h => absurd h (by omega)))
          obtain ⟨v1, hs1, hp1⟩ := slice_to (B := B) (w := wa) HO.out i (by omega)
          obtain ⟨v2, hs2, hp2⟩ := slice_from (B := B) (w := wa) HO.out i (by omega)
          have HP1 := Lib.hid hp1
          have HP2 := Lib.hid hp2
          have HLT : Hid ((out.take i).length ≤ 1073741824 ∧ (out.take i).length + 1 + (out.drop i).length ≤ 1073741824) := Lib.hid (td_len out i (by omega))
          generalize out.take i = o1 at *
          generalize out.drop i = o2 at *
          clear hp1 hp2
          go_upto_region 9 with fail
          go_region_law (first
            | (refine step_appendS rfl (.tmp 39) (.tmp 42) rfl rfl (OwnS.empty wa.heap.size _ _) rfl (HP1.out _ (by repeat (first | exact Ext.refl _ | (with_reducible apply Ext.drew) | (with_reducible apply Ext.alloc)))) (by have := HLT.out; simp; omega) (by first | (simp; done) | (simp; omega)) ?_; intro v3 w3 ho3 hg3 hb3; have HX3 := Lib.hid (Ext.of_none hg3); have HY3 : Hid (Ext wa w3) := Lib.hid (Ext.trans (by repeat (first | exact Ext.refl _ | (with_reducible apply Ext.drew) | (with_reducible apply Ext.alloc))) HX3.out); rw [List.nil_append] at ho3; have HO3 := Lib.hid ho3; clear ho3 hg3 hb3)
            | (refine step_appendS rfl (.tmp 43) (.tmp 45) rfl rfl (HO3.out.ext (by repeat (first | exact Ext.refl _ | (with_reducible apply Ext.drew) | (with_reducible apply Ext.alloc)))) rfl (show ArrS _ _ [s] from ?_) (by have := HLT.out; simp; omega) (by have := HY3.out.size; first | omega | (simp; done) | (simp; omega)) ?_; (first | exact HFR.out _ | (focus (refine ArrS.ext (HFR.out w3) ?_; (repeat (first | exact Ext.refl _ | (with_reducible apply Ext.drew) | (with_reducible apply Ext.alloc))); done)) | (focus (refine ArrS.ext (ArrS.ext (HFR2.out (.cells #[] 9)) ?_) HX3.out; (repeat (first | exact Ext.refl _ | (with_reducible apply Ext.drew) | (with_reducible apply Ext.alloc))); done)) | (focus (refine ArrS.ext (ArrS.ext (HFR.out wa) ?_) HX3.out; (repeat (first | exact Ext.refl _ | (with_reducible apply Ext.drew) | (with_reducible apply Ext.alloc))); done))); intro v4 w4 ho4 hg4 hb4; have HY4 : Hid (Ext wa w4) := Lib.hid (Ext.more (Ext.trans HY3.out (by repeat (first | exact Ext.refl _ | (with_reducible apply Ext.drew) | (with_reducible apply Ext.alloc)))) hb4); have HO4 := Lib.hid ho4; clear ho4 hg4 hb4)
            | (refine step_appendS (B := wa.heap.size) (xs := o1 ++ [s]) (ys := o2) rfl (.tmp 46) (.tmp 49) rfl rfl HO4.out rfl (HP2.out _ HY4.out) ?_ ?_ ?_; (have := HLT.out; simp; omega); (have := HY4.out.size; omega); intro v5 w5 ho5 hg5 hb5; have HY5 : Hid (Ext wa w5) := Lib.hid (Ext.more HY4.out hb5); have HO5 := Lib.hid ho5; clear ho5 hg5 hb5))
          all_goals
            have HFIN : Hid (OwnS B w5 v5 (sortS (ls.take (k + 1)))) := Lib.hid (by
              rw [HT.out, HSO.out, HINS.out]
              have h5 := HO5.out.mono (Nat.le_trans HBB.out HXA.out.size)
              rw [List.append_assoc] at h5
              exact h5)
            obtain ⟨n5, A5, c5, rfl⟩ := HO5.out.arr.shape
            have HX5 := Lib.hid (HXA.out.trans HY5.out)
            have hwk := hw1.out
            go_wp2_with fail
            clear hwk
            go_roundw
            case rel => exact ⟨k + 1, by omega, by go_num, HFIN.out, HX5.out⟩
            case measure => simp [intOf]; omega
    · obtain rfl : k = n := by omega
      have HA : Hid (sortS (ls.take k) = sortS ls) := Lib.hid (by rw [HN.out, List.take_length])
      have HE := Lib.hid hown
      rw [HA.out] at HE
      clear hown hext hol2 hlt hm
      go_wp2_with fail
      go_ret
      exact ⟨_, rfl, HE.out, HXA.out⟩
end Big
end Go.Proofs.YtgopljllknbelaaGreatDoor
/- The reference's Names. -/
namespace Go.Proofs.YtgopljllknbelaaGreatDoor
namespace Big
open Go.RowKit
set_option maxHeartbeats 2000000 in
set_option maxRecDepth 100000 in
theorem rnames_any (w : World) (v : Value) (l : List Nd) (h : RNd w v l) (hn : l.length ≤ 1000000) (htx : ∀ x ∈ l, x.text.length ≤ 1073741824) :
    Calls Tryz.prog 18 #[v] w fun e w' => ∃ v', e = .returned v' ∧ OwnS w.heap.size w' v' (sortS (namesOf l)) ∧ Ext w w' := by
  obtain ⟨ns, hns⟩ : ∃ ns, ns = namesOf l := ⟨_, rfl⟩
  have HNS := Lib.hid hns
  rw [← hns]
  clear hns
  obtain ⟨A, c, rfl, H1⟩ := h
  have HH := Lib.hid H1
  have HTX := Lib.hid htx
  clear H1 htx
  obtain ⟨n, hnn⟩ : ∃ n, n = l.length := ⟨_, rfl⟩
  have HN := Lib.hid hnn
  rw [← hnn] at hn ⊢
  clear hnn
  go_enter Tryz.func18, Tryz.ntmps18
  go_wp2_with fail
  go_loopw [3, 8] (fun s3 s8 wr => ∃ k : Nat, k ≤ n ∧ s8 = .int .i64 (k : Int) ∧ OwnS w.heap.size wr s3 (namesOf (l.take k)) ∧ Ext w wr) (fun _ s8 _ => n - (intOf s8).toNat)
  case atStart => exact ⟨0, Nat.zero_le _, rfl, OwnS.none_ _ _, Ext.refl w⟩
  case round =>
    obtain ⟨k, hk, rfl, hown, hext⟩ := hrel
    have HO := Lib.hid hown
    have HX := Lib.hid hext
    obtain ⟨m, A3, c3, rfl⟩ := hown.arr.shape
    have hml := namesOf_len (l.take k)
    rw [List.length_take] at hml
    by_cases hlt : k < n
    · have hit : k < l.length := by rw [← HN.out]; exact hlt
      obtain ⟨g, o, rfl, hgw, hc⟩ := HH.out (by omega)
      obtain ⟨k0, k1, k2, k3, k4⟩ := hc k hit
      rw [← hext.cell hgw] at k0 k1 k2 k3 k4
      have HT := Lib.hid (namesOf_take hit)
      have hw1 : IntKind.i64.wrap ((k : Int) + 1) = (k : Int) + 1 := IntWalk.i64_in _ (by omega)
      have hki : (k : Int) < (n : Int) := by omega
      have hk0 : (0 : Int) ≤ (k : Int) := by omega
      generalize l[k].a = xa at *
      generalize l[k].b = xb at *
      generalize l[k].n = xn at *
      generalize l[k].text = xt at *
      generalize l[k].kind = xk at *
      obtain ⟨tb, htb⟩ : ∃ tb : ByteArray, tb = ⟨xt.toArray⟩ := ⟨_, rfl⟩
      have hst : str xt = .string tb := by rw [htb]; rfl
      have HFR : Hid (∀ o : Obj, ArrS ((wr.alloc o).alloc (.cells #[.string tb] 9)) (.slice (some ⟨wr.heap.size + 1, 0, none⟩) 1 1) [xt]) := Lib.hid (fun o => by
        rw [← hst]
        have := ArrS.fresh1 (wr.alloc o) xt
        rw [show (wr.alloc o).heap.size = wr.heap.size + 1 by simp] at this
        exact this)
      rw [hst] at k4
      clear hown hext hc hst htb
      have HLM : Hid ((namesOf (l.take k)).length + [xt].length ≤ 2147483648) := Lib.hid (by rw [List.length_singleton]; omega)
      clear hml
      by_cases h2 : xk = 2
      · subst h2
        rw [if_pos rfl] at HT
        have hgy : w.heap.size ≤ wr.heap.size := HX.out.size
        go_wp2_with (at_builtin; go_must (refine wpList_appendS (B := w.heap.size) rfl _ _ rfl rfl (HO.out.ext (((Ext.refl _).alloc _).alloc _)) rfl (HFR.out _) HLM.out (by simp; omega) ?_; intro v' w' hown' hgr hb1))
        have HE := Lib.hid (And.intro hown' (((HX.out.alloc _).alloc _).more hb1))
        clear hown' hgr hb1
        go_roundw
        case rel => exact ⟨k + 1, by omega, by go_num, by rw [HT.out]; exact HE.out.1, HE.out.2⟩
        case measure => simp [intOf]; omega
      · have hb : (xk == 2) = false := by rw [beq_eq_false_iff_ne]; exact h2
        rw [if_neg h2, List.append_nil] at HT
        clear h2
        go_wp2_with fail
        go_roundw
        case rel => exact ⟨k + 1, by omega, by go_num, by rw [HT.out]; exact HO.out.ext ((Ext.refl _).alloc _), HX.out.alloc _⟩
        case measure => simp [intOf]; omega
    · obtain rfl : k = n := by omega
      have HA : Hid (namesOf (l.take k) = ns) := Lib.hid (by rw [HNS.out, HN.out, List.take_length])
      rw [HA.out] at HO
      have hnl := namesOf_len l
      have HL : Hid (ns.length ≤ 1000000) := Lib.hid (by rw [← HN.out, ← HNS.out] at hnl; omega)
      have HTN : Hid (∀ x ∈ ns, x.length ≤ 1073741824) := Lib.hid (fun x hx => by
        rw [HNS.out] at hx
        unfold namesOf at hx
        obtain ⟨y, hy, rfl⟩ := List.mem_map.1 hx
        exact HTX.out y (List.mem_filter.1 hy).1)
      have hgy : w.heap.size ≤ wr.heap.size := HX.out.size
      clear hown hext hml hnl HA hlt
      go_wp2_with fail
      refine (sorted_any wr _ ns HO.out.arr (by have := HL.out; omega) HTN.out).mono ?_
      rintro e w1 ⟨v1, rfl, ho1, hx1⟩
      have HE := Lib.hid (And.intro (OwnS.mono ho1 hgy) (HX.out.trans hx1))
      obtain ⟨n1, A1, c1, rfl⟩ := ho1.arr.shape
      clear ho1 hx1
      go_wp2_with fail
      go_ret
      exact ⟨_, rfl, HE.out.1, HE.out.2⟩
end Big
end Go.Proofs.YtgopljllknbelaaGreatDoor
/- mill.SameTexts. -/
namespace Go.Proofs.YtgopljllknbelaaGreatDoor
namespace Big
open Go.RowKit
set_option maxRecDepth 100000 in
theorem msame_any (w : World) (v u : Value) (ls ms : List (List UInt8)) (h : ArrS w v ls) (h' : ArrS w u ms) (hn : ls.length ≤ 1073741824) (hn' : ms.length ≤ 1073741824) :
    Calls Tryz.prog 16 #[v, u] w fun e w' => e = .returned (.bool (decide (ls = ms))) ∧ Ext w w' := by
  obtain ⟨A, c, rfl, hc, hm, hcell⟩ := h.open
  obtain ⟨A', c', rfl, hc', hm', hcell'⟩ := h'.open
  have HC := Lib.hid hcell
  have HC' := Lib.hid hcell'
  clear hcell hcell' hm hm' hc hc' h h'
  by_cases hl : ls.length = ms.length
  · have hb : ((ls.length : Int) != (ms.length : Int)) = false := by rw [hl]; simp
    have hb2 : ((ls.length : Int) == (ms.length : Int)) = true := by rw [hl]; simp
    have HL := Lib.hid hl
    clear hl
    go_enter Tryz.func16, Tryz.ntmps16
    go_wp2_with fail
    go_loopw [8] (fun i wr => ∃ k : Nat, k ≤ ls.length ∧ i = .int .i64 k ∧ Hid (ls.take k = ms.take k) ∧ Ext w wr) (fun i _ => ls.length - (intOf i).toNat)
    case atStart => exact ⟨0, by omega, rfl, rfl, Ext.refl _⟩
    case round =>
      obtain ⟨k, hk, rfl, HK, hext⟩ := hrel
      by_cases hlt : k < ls.length
      · have hlt2 : k < ms.length := by have := HL.out; omega
        obtain ⟨b, o, rfl, hbk, hcell⟩ := HC.out (by omega)
        obtain ⟨b', o', rfl, hbk', hcell'⟩ := HC'.out (by omega)
        have hx := (hext.cell hbk).trans (hcell k hlt)
        have hy := (hext.cell hbk').trans (hcell' k hlt2)
        have HST := Lib.hid (fun he => take_step HK.out hlt hlt2 he)
        have HNE : Hid (ls[k] ≠ ms[k] → decide (ls = ms) = false) := Lib.hid (fun he => by
          rw [decide_eq_false_iff_not]
          intro e
          subst e
          exact he rfl)
        clear hcell hcell'
        generalize ls[k] = x at *
        generalize ms[k] = y at *
        have HX := Lib.hid hext
        clear hext
        have h0 : (0 : Int) ≤ (k : Int) := by omega
        have h1 : (k : Int) < (ls.length : Int) := by omega
        have h2 : (k : Int) < (ms.length : Int) := by omega
        by_cases he : x = y
        · subst he
          have HT := Lib.hid (HST.out rfl)
          go_wp2_with fail
          go_quiet (fail)
          go_wp2_with fail
          go_roundw
          case rel => exact ⟨k + 1, by omega, by go_num, HT, HX.out.drewN _⟩
          case measure => simp [intOf]; omega
        · have hxy : (x == y) = false := by rw [beq_eq_false_iff_ne]; exact he
          have HD := Lib.hid (HNE.out he)
          clear he
          go_wp2_with fail
          go_quiet (fail)
          go_wp2_with fail
          go_ret
          rw [HD.out]
          exact ⟨rfl, HX.out.drewN _⟩
      · obtain rfl : k = ls.length := by omega
        have HD : Hid (decide (ls = ms) = true) := Lib.hid (by
          rw [decide_eq_true_iff]
          have h1 := HK.out
          rw [List.take_of_length_le (Nat.le_refl _), List.take_of_length_le (by rw [HL.out]; exact Nat.le_refl _)] at h1
          exact h1)
        go_wp2_with fail
        go_ret
        rw [HD.out]
        exact ⟨rfl, hext⟩
  · have hb : ((ls.length : Int) != (ms.length : Int)) = true := by rw [bne_iff_ne]; omega
    have hb2 : ((ls.length : Int) == (ms.length : Int)) = false := by rw [beq_eq_false_iff_ne]; omega
    have HD : Hid (decide (ls = ms) = false) := Lib.hid (by
      rw [decide_eq_false_iff_not]
      intro e
      exact hl (by rw [e]))
    clear hl
    go_enter Tryz.func16, Tryz.ntmps16
    go_wp2_with fail
    go_loopw [8] (fun i wr => i = .int .i64 0 ∧ Ext w wr) (fun i _ => ls.length - (intOf i).toNat)
    case atStart => exact ⟨rfl, Ext.refl _⟩
    case round =>
      obtain ⟨rfl, hext⟩ := hrel
      by_cases hlt : 0 < ls.length
      · have HX := Lib.hid hext
        clear hext
        go_wp2_with fail
        go_quiet (fail)
        go_wp2_with fail
        go_ret
        rw [HD.out]
        exact ⟨rfl, HX.out.drewN _⟩
      · go_wp2_with fail
        go_ret
        rw [HD.out]
        exact ⟨rfl, hext⟩
end Big
end Go.Proofs.YtgopljllknbelaaGreatDoor
