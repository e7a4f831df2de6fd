import Derived.Test.YtoehdoghghpmjaaGreatDoorM5
import Derived.Test.YtoehdoghghpmjaaGreatDoorM7
import Derived.Test.YtoehdoghghpmjaaGreatDoorM21
import Derived.Test.YtoehdoghghpmjaaGreatDoorM15
import Derived.Deep.CutBlock
/- Words for lists of texts. -/
namespace Go.Proofs.YtoehdoghghpmjaaGreatDoor
namespace Big
open Go.RowKit
theorem info_str : (Tryz.prog.info? 9).map (fun i => (i.zero, i.size, i.bytes)) = some (some (.string ⟨#[]⟩), 1, 16) := by kernel_rfl
/-- v reads as the list ls of texts. -/
def ArrS (w : World) (v : Value) (ls : List (List UInt8)) : Prop := RArr w v (ls.map str)
def OwnS (B : Nat) (w : World) (v : Value) (ls : List (List UInt8)) : Prop := ROwn 9 B w v (ls.map str)
section
variable {w w' : World} {v : Value} {ls : List (List UInt8)} {B B' : Nat}
theorem ArrS.ext (h : ArrS w v ls) (hb : Ext w w') : ArrS w' v ls := RArr.ext h hb
theorem OwnS.ext (h : OwnS B w v ls) (hb : Ext w w') : OwnS B w' v ls := ROwn.ext h hb
theorem OwnS.mono (h : OwnS B w v ls) (hB : B' ≤ B) : OwnS B' w v ls := ROwn.mono h hB
theorem OwnS.arr (h : OwnS B w v ls) : ArrS w v ls := ROwn.arr h
theorem OwnS.none_ (B : Nat) (w : World) : OwnS B w (.slice none 0 0) [] := ROwn.none_ _ B w
theorem map_str_get {j : Nat} (hj : j < ls.length) : (ls.map str)[j]? = some (str ls[j]) := by
  rw [List.getElem?_map, List.getElem?_eq_getElem hj]; rfl
theorem ArrS.open (h : ArrS w v ls) : ∃ A c, v = .slice A ls.length c ∧ ls.length ≤ c ∧ c ≤ maxLen ∧
    (0 < ls.length → ∃ b o, A = some ⟨b, o, none⟩ ∧ b < w.heap.size ∧ ∀ j (hj : j < ls.length), w.cell? ⟨b, o + j, none⟩ = some (str ls[j])) := by
  obtain ⟨A, c, rfl, h2, h3, h4⟩ := h
  rw [List.length_map] at h2 h4
  refine ⟨A, c, by rw [List.length_map], h2, h3, fun hp => ?_⟩
  obtain ⟨b, o, rfl, hlt, hc⟩ := h4 hp
  exact ⟨b, o, rfl, hlt, fun j hj => hc j _ (map_str_get hj)⟩
theorem ArrS.shape (h : ArrS w v ls) : ∃ n A c, v = .slice A n c := RArr.shape h
theorem ArrS.len {n c : Nat} {A : Option Addr} (h : ArrS w (.slice A n c) ls) : n = ls.length := by
  obtain ⟨A', c', he, _⟩ := h
  injection he with _ h2 _
  rw [h2, List.length_map]
theorem ones_str : ∀ u ∈ ls.map str, u.oneCell' = true := fun u hu => by
  obtain ⟨x, _, rfl⟩ := List.mem_map.1 hu
  rfl
/-- A slice over a whole block of texts. -/
theorem OwnS.block {g : Nat} (h : Blk w g 9 (ls.map str).toArray) (hg : B ≤ g) (hm : ls.length ≤ 2147483648) : OwnS B w (.slice (some ⟨g, 0, none⟩) ls.length ls.length) ls := by
  refine ⟨some ⟨g, 0, none⟩, ls.length, by rw [List.length_map], by rw [List.length_map]; omega, by unfold maxLen; omega, .inr ⟨g, _, rfl, hg, h, by simp, ?_⟩⟩
  rw [List.length_map]
  show (ls.map str).take ls.length = _
  rw [List.take_of_length_le (by simp)]
end
theorem wpList_appendS {w : World} {v src : Value} {xs ys : List (List UInt8)} {B : Nat} {ops : Array Oper} {rest : List Oper} {o : Oper} {a : Act} {Q : Exit → Act → World → Prop} (hgd : o.guard = none) (s x : Operand)
    (ho : o.op = .call { callee := .builtin .append, args := #[s, x], argTypes := #[25, 25] })
    (hs : a.eval s = v) (hown : OwnS B w v xs) (hx : a.eval x = src) (hsrc : ArrS w src ys) (hn : xs.length + ys.length ≤ 2147483648) (hbase : B ≤ w.heap.size)
    (h : ∀ v' w', OwnS B w' v' (xs ++ ys) → w.grownBy w' (rowOf v) → Below B w w' → wpList Tryz.prog ops Q rest (a.put o.dst v') w') : wpList Tryz.prog ops Q (o :: rest) a w := by
  obtain ⟨i0, hi, hz0, hz1, hz2⟩ := info_parts info_str
  refine wpList_append_any hgd s x 25 ho 9 i0 _ 16 Tryz.underlying25 hi hz0 hz1 hz2 rfl hs hown hx hsrc ones_str (by simp only [List.length_map]; unfold maxLen; omega) (by simp only [List.length_map]; omega) hbase (fun v' w' h1 h2 h3 => h v' w' ?_ h2 h3)
  unfold OwnS
  rw [List.map_append]
  exact h1
theorem ArrS.fresh1 (w : World) (l : List UInt8) : ArrS (w.alloc (.cells #[str l] 9)) (.slice (some ⟨w.heap.size, 0, none⟩) 1 1) [l] := RArr.one (by simp)

/-- Do two lists of texts agree up to k? -/
theorem take_step {ls ms : List (List UInt8)} {k : Nat} (h : ls.take k = ms.take k) (h1 : k < ls.length) (h2 : k < ms.length) (he : ls[k] = ms[k]) : ls.take (k + 1) = ms.take (k + 1) := by
  rw [List.take_succ_eq_append_getElem h1, List.take_succ_eq_append_getElem h2, h, he]

end Big
end Go.Proofs.YtoehdoghghpmjaaGreatDoor
/- mill.names, number; ref19.Operands; ref20.Level. -/
namespace Go.Proofs.YtoehdoghghpmjaaGreatDoor
namespace Big
open Go.RowKit
def names5 : List (List UInt8) := [[97], [98], [99], [120, 49], [89, 95, 50]]
def decs14 : List (List UInt8) := [[48], [49], [50], [51], [48, 46, 53], [49, 46, 50, 53], [55], [49, 48], [48, 46, 49], [49, 50, 46, 55, 53], [49, 48, 48], [51, 46, 49, 52], [54, 52], [48, 46, 48, 48, 49]]
theorem names_any (w : World) : Calls Tryz.prog 22 #[] w fun e w' => e = .returned (.slice (some ⟨w.heap.size, 0, none⟩) 5 5) ∧ Blk w' w.heap.size 9 (names5.map str).toArray ∧ Ext w w' := by
  go_enter Tryz.func22, Tryz.ntmps22
  go_wp2_with fail
  go_ret
  exact ⟨rfl, Blk.new w 9 _, (Ext.refl w).alloc _⟩
theorem decs_get {x : Int} (h0 : 0 ≤ x) (h1 : x < 14) : ∃ t, decs14[x.toNat]? = some t ∧ code7 t = 0 ∧ t.length ≤ 5 := by
  obtain ⟨n, rfl⟩ := Int.eq_ofNat_of_zero_le h0
  have hn : n < decs14.length := by show n < 14; omega
  refine ⟨decs14[n], by simp, ?_⟩
  have hall : ∀ t ∈ decs14, code7 t = 0 ∧ t.length ≤ 5 := by decide +kernel
  exact hall _ (List.getElem_mem hn)
set_option maxRecDepth 100000 in
theorem number_any (B g : Nat) (w : World) (L : Value) (l : List Int) (a : Nat) (h : TapeAt B g w L l a) (hB : B ≤ w.heap.size) : Calls Tryz.prog 67 #[.pointer (some ⟨g, 0, none⟩)] w fun e w' => ∃ t, e = .returned (str t) ∧ code7 t = 0 ∧ t.length ≤ 5 ∧ TapeAt B g w' L l (nextA l a) ∧ KB w.heap.size g w w' := by
  have hcs : (decs14.map str).toArray = #[.string ⟨#[48]⟩, .string ⟨#[49]⟩, .string ⟨#[50]⟩, .string ⟨#[51]⟩, .string ⟨#[48, 46, 53]⟩, .string ⟨#[49, 46, 50, 53]⟩, .string ⟨#[55]⟩, .string ⟨#[49, 48]⟩, .string ⟨#[48, 46, 49]⟩, .string ⟨#[49, 50, 46, 55, 53]⟩, .string ⟨#[49, 48, 48]⟩, .string ⟨#[51, 46, 49, 52]⟩, .string ⟨#[54, 52]⟩, .string ⟨#[48, 46, 48, 48, 49]⟩] := rfl
  have hb1 := Blk.new w 9 (decs14.map str).toArray
  have hx1 := (Ext.refl w).alloc (.cells (decs14.map str).toArray 9)
  have hs1 : (w.alloc (.cells (decs14.map str).toArray 9)).heap.size = w.heap.size + 1 := by simp
  have ht1 := h.below (Below.mono hx1 hB)
  rw [hcs] at hb1 hx1 ht1 hs1
  have HN := Lib.hid (next_any B g _ L l a 14 ht1 (by decide) (by decide))
  have HB1 := Lib.hid hb1
  have HX1 := Lib.hid hx1
  have hg := h.blk.lt
  have HG : Hid (g ≠ w.heap.size) := Lib.hid (by omega)
  have hr := nextV_range (l := l) (a := a) (n := 14) (by decide)
  obtain ⟨t, ht, hc, htl⟩ := decs_get hr.1 hr.2
  obtain ⟨h0, h1⟩ := hr
  have HTT := Lib.hid ht
  have HC := Lib.hid (And.intro hc htl)
  generalize nextV l a 14 = x at *
  clear h hb1 hx1 ht1 hcs ht hc htl
  go_enter Tryz.func67, Tryz.ntmps67
  go_wp2_with fail
  refine HN.out.mono ?_
  rintro e w2 ⟨rfl, htp, hk⟩
  have hb2 := (hk (w.heap.size + 1)).blk HB1.out (by omega) (fun e => HG.out e.symm)
  have hst := hb2.cell x.toNat
  have hget : (decs14.map str)[x.toNat]? = some (str t) := by rw [List.getElem?_map, HTT.out]; rfl
  have hget2 : ((decs14.map str).toArray)[x.toNat]? = some (str t) := by rw [List.getElem?_toArray]; exact hget
  replace hst := hst.trans hget2
  have HTP := Lib.hid htp
  have HK := Lib.hid (((KB.refl w.heap.size g w).ext HX1.out (Nat.le_refl _)).trans (hk w.heap.size))
  clear htp hk hb2 hget hget2
  go_wp2_with fail
  go_ret
  exact ⟨t, rfl, HC.out.1, HC.out.2, HTP.out, HK.out⟩
/-- How many operands a kind has. -/
def operI (k : Int) : Int := if k < 1 ∨ 16 < k then -1 else if k ≤ 4 then 0 else if 6 ≤ k ∧ k ≤ 9 then 2 else 1
theorem operands_any (w : World) (k : Int) : Calls Tryz.prog 68 #[.int .i64 k] w fun e w' => e = .returned (.int .i64 (operI k)) ∧ w = w' := by
  have key : (k < 1 ∧ operI k = -1) ∨ (¬ k < 1 ∧ 16 < k ∧ operI k = -1) ∨ (¬ k < 1 ∧ ¬ 16 < k ∧ k ≤ 4 ∧ operI k = 0) ∨ (¬ k < 1 ∧ ¬ 16 < k ∧ ¬ k ≤ 4 ∧ 6 ≤ k ∧ k ≤ 9 ∧ operI k = 2) ∨ (¬ k < 1 ∧ ¬ 16 < k ∧ ¬ k ≤ 4 ∧ ¬ 6 ≤ k ∧ operI k = 1) ∨ (¬ k < 1 ∧ ¬ 16 < k ∧ ¬ k ≤ 4 ∧ 6 ≤ k ∧ ¬ k ≤ 9 ∧ operI k = 1) := by
    unfold operI
    by_cases h1 : k < 1
    · simp [h1]
    by_cases h2 : 16 < k
    · simp [h1, h2]
    by_cases h3 : k ≤ 4
    · simp [h1, h2, h3]
    by_cases h4 : 6 ≤ k
    · by_cases h5 : k ≤ 9
      · simp [h1, h2, h3, h4, h5]
      · simp [h1, h2, h3, h4, h5]
    · simp [h1, h2, h3, h4]
  rcases key with ⟨h1, h⟩ | ⟨h1, h2, h⟩ | ⟨h1, h2, h3, h⟩ | ⟨h1, h2, h3, h4, h5, h⟩ | ⟨h1, h2, h3, h4, h⟩ | ⟨h1, h2, h3, h4, h5, h⟩
  all_goals
    have H := Lib.hid h
    clear h
    go_enter Tryz.func68, Tryz.ntmps68
    go_wp2_with fail
    go_ret
    exact ⟨by rw [H.out]; rfl, rfl⟩
end Big
end Go.Proofs.YtoehdoghghpmjaaGreatDoor
/- mill.part: it appends the nodes of some expression. -/
namespace Go.Proofs.YtoehdoghghpmjaaGreatDoor
namespace Big
open Go.RowKit
/-- What part returns. -/
def PartPost (B g : Nat) (w : World) (L : Value) (l : List Int) (xs : List Nd) (d : Nat) (e : Ending) (w' : World) : Prop :=
  ∃ (x : Ex) (v' : Value) (a' : Nat), e = .returned v' ∧ x.Good ∧ x.size + 1 ≤ 2 ^ d ∧ x.depth ≤ d ∧ OwnNd B w' v' (xs ++ flat xs.length x) ∧ TapeAt B g w' L l a' ∧ KB B g w w'
theorem newsL (w : World) (ty : TypeId) (cs : List Value) : ∀ (j : Nat) (u : Value), cs[j]? = some u → (w.alloc (.cells cs.toArray ty)).cell? ((⟨w.heap.size, 0, none⟩ : Addr).add j) = some u := fun j u hj => by
  have h1 := (Blk.new w ty cs.toArray).cell j
  have h2 : (⟨w.heap.size, 0, none⟩ : Addr).add j = ⟨w.heap.size, j, none⟩ := by
    unfold Addr.add
    split
    · rename_i h; subst h; rfl
    · simp
  rw [h2, h1, ← hj, List.getElem?_toArray]
theorem nd_after {B n : Nat} {W W' : World} {xs : List Nd} {nd : Nd} {v v' : Value} (hn : n = xs.length) (ho : Obj) (hrow : OwnNd B W v xs) (hB : B ≤ W.heap.size)
    (hown : W'.ownsRow B 101 5 v' (n + 1) (ndsC xs ++ ndC nd)) (hgr : (W.alloc ho).grownBy W' v.ownBlock) : OwnNd B W' v' (xs ++ [nd]) ∧ Below B W W' := by
  refine ⟨?_, ?_⟩
  · unfold OwnNd
    rw [ndsC_append, ndsC_one, List.length_append, List.length_singleton, ← hn]
    exact hown
  · exact Below.grown ((Below.refl B W).alloc hB ho) hgr (by simp; omega) (fun k hk => ownsRow_block hrow k hk)
theorem OwnNd.kbx {B g : Nat} {w w' : World} {v : Value} {l : List Nd} (h : OwnNd B w v l) (hg : g < B) (hk : ∀ B', KB B' g w w') : OwnNd B w' v l :=
  h.kept (fun k h1 h2 => (hk w.heap.size).block k h2 (by omega))
theorem OwnNd.kbs {B g : Nat} {w w' : World} {v : Value} {l : List Nd} (h : OwnNd B w v l) (hg : g < B) (hk : KB w.heap.size g w w') : OwnNd B w' v l :=
  h.kept (fun k h1 h2 => hk.block k h2 (by omega))
theorem OwnNd.ext {B : Nat} {w w' : World} {v : Value} {l : List Nd} (h : OwnNd B w v l) (hk : Ext w w') : OwnNd B w' v l :=
  h.kept (fun k _h1 h2 => hk.block k h2)
theorem names_get {x : Int} (h0 : 0 ≤ x) (h1 : x < 5) : ∃ t, ∃ h : x.toNat < names5.length, names5[x.toNat] = t ∧ nameB t = true ∧ t.length ≤ 5 := by
  obtain ⟨n, rfl⟩ := Int.eq_ofNat_of_zero_le h0
  have hn : n < names5.length := by show n < 5; omega
  refine ⟨names5[n], hn, rfl, ?_⟩
  have hall : ∀ t ∈ names5, nameB t = true ∧ t.length ≤ 5 := by decide +kernel
  exact hall _ (List.getElem_mem hn)
theorem Dr.belowN {w w' : World} (h : Dr w w') (B : Nat) : Below B w w' := by
  have h1 := h.grown none
  exact ⟨h1.os, h1.tape, h1.output, h1.size, fun g _ => by rw [h.heap]⟩
theorem OwnNd.shape3 {B : Nat} {w : World} {v : Value} {l : List Nd} (h : OwnNd B w v l) : ∃ A c n, v = .slice A n c ∧ n = l.length := by
  obtain ⟨A, c, h1⟩ := h.shape
  exact ⟨A, c, _, h1, rfl⟩
theorem pow_two_le {d : Nat} (h : 1 ≤ d) : 2 ≤ 2 ^ d := by
  calc 2 = 2 ^ 1 := rfl
    _ ≤ 2 ^ d := Nat.pow_le_pow_right (by omega) h
set_option maxHeartbeats 2000000 in
set_option maxRecDepth 100000 in
theorem part_any (d : Nat) : ∀ (B g : Nat) (w : World) (L : Value) (l : List Int) (a : Nat) (v : Value) (xs : List Nd) (closed : Bool) (D : Int), TapeAt B g w L l a → OwnNd B w v xs → B ≤ w.heap.size → 1 ≤ d → D = (d : Int) → xs.length + 2 ^ d ≤ 100000 → d ≤ 1000 →
    Calls Tryz.prog 45 #[.pointer (some ⟨g, 0, none⟩), v, .int .i64 D, .bool closed] w (PartPost B g w L l xs d) := by
  induction d using Nat.strongRecOn with
  | _ d IH =>
  intro B g w L l a v xs closed D ht hv hB hd1 hD hlen hdm
  have HIH := Lib.hid IH
  have HT := Lib.hid ht
  have HV := Lib.hid hv
  have HP := Lib.hid hlen
  have HDD := Lib.hid hD
  have hDpos : 1 ≤ D := by omega
  have hgB := ht.lt
  obtain ⟨A0, c0, rfl⟩ := hv.shape
  have HMORE := Lib.hid (more_any B g w L l a ht)
  have HN5 := Lib.hid (fun W h => next_any B g W L l a 5 h (by decide) (by decide))
  have HRK := Lib.hid (fun W h => range_any B g W L l a 1 16 h (by decide) (by decide) (by decide))
  have hr5 := nextV_range (l := l) (a := a) (n := 5) (by decide)
  have hr16 := nextV_range (l := l) (a := a) (n := 16 - 1 + 1) (by decide)
  have hp2 := pow_two_le hd1
  obtain ⟨i0, hi, hz0, hz1, hz2⟩ := info_parts info_node
  have hxl : xs.length ≤ 100000 := by omega
  clear IH ht hv hlen hD
  generalize nextV l a 5 = x5 at *
  generalize nextV l a (16 - 1 + 1) = x16 at *
  generalize nextA l a = a2 at *
  go_enter Tryz.func45, Tryz.ntmps45
  go_upto_region 1 with fail
  go_cut [23] from 12 to 23 (fun s23 wx => ∃ q : Bool, s23 = .bool q ∧ Dr w wx ∧ (q = false → 1 < D ∧ xs.length ≤ 24))
  case first =>
    by_cases hD1 : D ≤ 1
    · have hD2 : decide (D ≤ 1) = true := decide_eq_true hD1
      go_wp2_with fail
      go_meet
      exact ⟨true, rfl, Dr.refl w, fun h => by cases h⟩
    · have hD2 : decide (D ≤ 1) = false := decide_eq_false hD1
      by_cases hal : a < l.length
      · have hal2 : decide (a < l.length) = true := decide_eq_true hal
        rw [hal2] at HMORE
        clear hal2 hal
        go_wp2_with fail
        refine HMORE.out.mono ?_
        rintro e w1 ⟨rfl, hd⟩
        have HD1 := Lib.hid hd
        clear hd
        go_wp2_with fail
        go_meet
        refine ⟨_, rfl, HD1.out, fun h => ⟨by omega, ?_⟩⟩
        have h2 := of_decide_eq_false h
        omega
      · have hal2 : decide (a < l.length) = false := decide_eq_false hal
        rw [hal2] at HMORE
        clear hal2 hal
        go_wp2_with fail
        refine HMORE.out.mono ?_
        rintro e w1 ⟨rfl, hd⟩
        have HD1 := Lib.hid hd
        clear hd
        go_wp2_with fail
        go_meet
        exact ⟨true, rfl, HD1.out, fun h => by cases h⟩
  case rest =>
    obtain ⟨q, rfl, hd, hq⟩ := hcut
    clear HMORE
    have HD := Lib.hid hd
    have HTX := Lib.hid (HT.out.below (hd.belowN B))
    have HVX := Lib.hid (HV.out.ext (hd.belowN w.heap.size))
    have HKX := Lib.hid ((KB.refl B g w).below (hd.belowN B))
    have hBx : B ≤ wc.heap.size := by rw [hd.heap]; exact hB
    clear hd hB
    generalize wc = w1 at *
    cases q
    · obtain ⟨hDgt, hx24⟩ := hq rfl
      obtain ⟨m, rfl⟩ : ∃ m, d = m + 1 := ⟨d - 1, by omega⟩
      have hm1 : 1 ≤ m := by have := HDD.out; omega
      have hpow : 2 ^ (m + 1) = 2 * 2 ^ m := by rw [Nat.pow_succ]; omega
      have hpm := pow_two_le hm1
      have hlen := HP.out
      have hw1 : IntKind.i64.wrap (D - 1) = D - 1 := by have := HDD.out; exact IntWalk.i64_in _ (by omega)
      obtain ⟨K, hK⟩ : ∃ K : Nat, (K : Int) = 1 + x16 := ⟨(1 + x16).toNat, by omega⟩
      rw [← hK] at HRK
      have hK1 : 1 ≤ K := by omega
      have hK16 : K ≤ 16 := by omega
      have HOP := Lib.hid (fun W => operands_any W (K : Int))
      clear hq hK hr16 HN5 hr5
      have key : (operI (K : Int) = 0 ∧ K ≤ 4) ∨ (operI (K : Int) = 1 ∧ (K = 5 ∨ (10 ≤ K ∧ K ≤ 16))) ∨ (operI (K : Int) = 2 ∧ (6 ≤ K ∧ K ≤ 9)) := by
        unfold operI
        repeat' split
        all_goals omega
      rcases key with ⟨hop, _⟩ | ⟨hop, hKu⟩ | ⟨hop, hKu⟩
      · rw [hop] at HOP
        clear hop hx24
        have HI := Lib.hid (fun W h1 h2 h3 => HIH.out 1 (by omega) B g W L l a2 (.slice A0 xs.length c0) xs closed 1 h1 h2 h3 (by decide) rfl (by omega) (by decide))
        go_wp2_with fail
        refine (HRK.out _ HTX.out).mono ?_
        rintro e w2 ⟨rfl, ht2, hk2⟩
        have HT2 := Lib.hid ht2
        have HV2 := Lib.hid (HVX.out.kbx hgB hk2)
        have HK2 := Lib.hid (HKX.out.trans (hk2 B))
        have hB2 : B ≤ w2.heap.size := Nat.le_trans hBx (hk2 B).size
        clear ht2 hk2
        go_wp2_with fail
        refine (HOP.out _).mono ?_
        rintro e w3 ⟨rfl, rfl⟩
        go_wp2_with fail
        refine (HI.out _ HT2.out HV2.out hB2).mono ?_
        rintro e w4 hpost
        obtain ⟨x, v', a', rfl, hg, hs, hdp, hown, htp, hk⟩ := hpost
        have HE := Lib.hid (And.intro hg (And.intro hs (And.intro hdp (And.intro hown (And.intro htp hk)))))
        clear hg hs hdp hown htp hk
        go_wp2_with fail
        go_ret
        obtain ⟨hg, hs, hdp, hown, htp, hk⟩ := HE.out
        exact ⟨x, v', a', rfl, hg, Nat.le_trans hs hp2, by omega, hown, htp, HK2.out.trans hk⟩
      · rw [hop] at HOP
        clear hop hx24
        by_cases hK10 : K = 10
        · subst hK10
          rw [show ((10 : Nat) : Int) = 10 from rfl] at HOP HRK
          have HR8 := Lib.hid (fun W h => range_any B g W L l a2 (-3) 4 h (by decide) (by decide) (by decide))
          have hr8 := nextV_range (l := l) (a := a2) (n := 4 - -3 + 1) (by decide)
          have hn8 : -3 ≤ -3 + nextV l a2 (4 - -3 + 1) ∧ -3 + nextV l a2 (4 - -3 + 1) ≤ 4 := by omega
          generalize -3 + nextV l a2 (4 - -3 + 1) = nn at *
          generalize nextA l a2 = a3 at *
          clear hr8
          go_wp2_with fail
          refine (HRK.out _ HTX.out).mono ?_
          rintro e w2 ⟨rfl, ht2, hk2⟩
          have HT2 := Lib.hid ht2
          have HV2 := Lib.hid (HVX.out.kbx hgB hk2)
          have HK2 := Lib.hid (HKX.out.trans (hk2 B))
          have hB2 : B ≤ w2.heap.size := Nat.le_trans hBx (hk2 B).size
          clear ht2 hk2
          go_wp2_with fail
          refine (HOP.out _).mono ?_
          rintro e w3 ⟨rfl, rfl⟩
          go_wp2_with fail
          refine (HR8.out _ HT2.out).mono ?_
          rintro e w6 ⟨rfl, ht6, hk6⟩
          have HT6 := Lib.hid ht6
          have HV6 := Lib.hid (HV2.out.kbx hgB hk6)
          have HK6 := Lib.hid (HK2.out.trans (hk6 B))
          have hB6 : B ≤ w6.heap.size := Nat.le_trans hB2 (hk6 B).size
          clear ht6 hk6
          go_wp2_with fail
          refine (HIH.out m (by omega) B g _ L l a3 (.slice A0 xs.length c0) (xs) closed (D - 1) HT6.out HV6.out hB6 hm1 (by have := HDD.out; omega) (by omega) (by omega)).mono ?_
          rintro e w7 hpost
          obtain ⟨x, v7, a7, rfl, hg7, hs7, hdp7, hown7, htp7, hk7⟩ := hpost
          obtain ⟨A7, c7, n7, rfl, hn7⟩ := hown7.shape3
          have hL7 : n7 = xs.length + x.size := by rw [hn7, List.length_append, flat_len]
          have HW7 : Hid (w7.ownsRow B 101 5 (.slice A7 n7 c7) n7 (ndsC (xs ++ flat xs.length x))) := Lib.hid (by
            have h := hown7
            unfold OwnNd at h
            rw [← hn7] at h
            exact h)
          have HL7 := Lib.hid hL7
          have hb7a : n7 ≤ 100000 := by omega
          have hb7b : 1 ≤ n7 := by have := x.size_pos; omega
          have HO7 := Lib.hid hown7
          have HN7 := Lib.hid hn7
          have HT7 := Lib.hid htp7
          have HG7 := Lib.hid (And.intro hg7 hdp7)
          have HK7 := Lib.hid (HK6.out.trans hk7)
          have hB7 : B ≤ w7.heap.size := Nat.le_trans hB6 hk7.size
          clear hg7 hdp7 hown7 htp7 hk7 hn7 hL7
          have hw7 : IntKind.i64.wrap ((n7 : Int) - 1) = (n7 : Int) - 1 := IntWalk.i64_in _ (by omega)
          have HRO : Hid ((w7.alloc (.cells #[.int .i64 10, .int .i64 ((n7 : Int) - 1), .int .i64 0, .int .i64 nn, .string ⟨#[]⟩] 101)).ownsRow B 101 5 _ n7 (ndsC (xs ++ flat xs.length x))) := Lib.hid (ownsRow_below HW7.out (fun k _ hk => Below.heap_alloc _ _ k hk))
          have HNW := Lib.hid (newsL w7 101 [.int .i64 10, .int .i64 ((n7 : Int) - 1), .int .i64 0, .int .i64 nn, .string ⟨#[]⟩])
          have HBB1 : Hid (n7 + 1 ≤ maxLen) := Lib.hid (by unfold maxLen; omega)
          have HBB2 : Hid ((n7 + 1) * 48 ≤ 140737488355328) := Lib.hid (by omega)
          have HBB3 : Hid (B ≤ (w7.alloc (.cells #[.int .i64 10, .int .i64 ((n7 : Int) - 1), .int .i64 0, .int .i64 nn, .string ⟨#[]⟩] 101)).heap.size) := Lib.hid (by simp; omega)
          go_wp2_with (at_builtin; go_must (refine wpList_append_own _ rfl _ _ 52 rfl B 101 i0 _ 5 48 Tryz.underlying52 hi hz0 hz1 hz2 rfl (by decide) _ n7 (ndsC (xs ++ flat xs.length x)) rfl HRO.out ⟨w7.heap.size, 0, none⟩ 1 1 [.int .i64 10, .int .i64 ((n7 : Int) - 1), .int .i64 0, .int .i64 nn, .string ⟨#[]⟩] rfl rfl HNW.out (by simp [Value.oneCell']) HBB1.out HBB2.out HBB3.out ?_; intro v' w' hown hgr _; have HDN := Lib.hid (nd_after (nd := ⟨10, (n7 : Int) - 1, 0, nn, []⟩) HN7.out _ HO7.out hB7 hown hgr); obtain ⟨A', c', rfl⟩ := ownsRow_shape hown; clear hown hgr))
          go_wp2_with fail
          go_ret
          have hL7 := HL7.out
          have hsz7 := x.size_pos
          refine ⟨.un 10 nn x, _, _, rfl, ⟨hKu, fun h => absurd rfl h, by omega, by omega, HG7.out.1⟩, by rw [Ex.size]; omega, by rw [Ex.depth]; have := HG7.out.2; omega, ?_, HT7.out.below HDN.out.2, HK7.out.below HDN.out.2⟩
          rw [flat, ← List.append_assoc, show ((xs.length + x.size - 1 : Nat) : Int) = (n7 : Int) - 1 by omega]
          exact HDN.out.1
        · have hKe : ((K : Int) == 10) = false := by rw [beq_eq_false_iff_ne]; omega
          go_wp2_with fail
          refine (HRK.out _ HTX.out).mono ?_
          rintro e w2 ⟨rfl, ht2, hk2⟩
          have HT2 := Lib.hid ht2
          have HV2 := Lib.hid (HVX.out.kbx hgB hk2)
          have HK2 := Lib.hid (HKX.out.trans (hk2 B))
          have hB2 : B ≤ w2.heap.size := Nat.le_trans hBx (hk2 B).size
          clear ht2 hk2
          go_wp2_with fail
          refine (HOP.out _).mono ?_
          rintro e w3 ⟨rfl, rfl⟩
          have HK6 := Lib.hid HK2.out
          have hB6 := hB2
          go_wp2_with fail
          refine (HIH.out m (by omega) B g _ L l a2 (.slice A0 xs.length c0) (xs) closed (D - 1) HT2.out HV2.out hB2 hm1 (by have := HDD.out; omega) (by omega) (by omega)).mono ?_
          rintro e w7 hpost
          obtain ⟨x, v7, a7, rfl, hg7, hs7, hdp7, hown7, htp7, hk7⟩ := hpost
          obtain ⟨A7, c7, n7, rfl, hn7⟩ := hown7.shape3
          have hL7 : n7 = xs.length + x.size := by rw [hn7, List.length_append, flat_len]
          have HW7 : Hid (w7.ownsRow B 101 5 (.slice A7 n7 c7) n7 (ndsC (xs ++ flat xs.length x))) := Lib.hid (by
            have h := hown7
            unfold OwnNd at h
            rw [← hn7] at h
            exact h)
          have HL7 := Lib.hid hL7
          have hb7a : n7 ≤ 100000 := by omega
          have hb7b : 1 ≤ n7 := by have := x.size_pos; omega
          have HO7 := Lib.hid hown7
          have HN7 := Lib.hid hn7
          have HT7 := Lib.hid htp7
          have HG7 := Lib.hid (And.intro hg7 hdp7)
          have HK7 := Lib.hid (HK6.out.trans hk7)
          have hB7 : B ≤ w7.heap.size := Nat.le_trans hB6 hk7.size
          clear hg7 hdp7 hown7 htp7 hk7 hn7 hL7
          have hw7 : IntKind.i64.wrap ((n7 : Int) - 1) = (n7 : Int) - 1 := IntWalk.i64_in _ (by omega)
          have HRO : Hid ((w7.alloc (.cells #[.int .i64 (K : Int), .int .i64 ((n7 : Int) - 1), .int .i64 0, .int .i64 0, .string ⟨#[]⟩] 101)).ownsRow B 101 5 _ n7 (ndsC (xs ++ flat xs.length x))) := Lib.hid (ownsRow_below HW7.out (fun k _ hk => Below.heap_alloc _ _ k hk))
          have HNW := Lib.hid (newsL w7 101 [.int .i64 (K : Int), .int .i64 ((n7 : Int) - 1), .int .i64 0, .int .i64 0, .string ⟨#[]⟩])
          have HBB1 : Hid (n7 + 1 ≤ maxLen) := Lib.hid (by unfold maxLen; omega)
          have HBB2 : Hid ((n7 + 1) * 48 ≤ 140737488355328) := Lib.hid (by omega)
          have HBB3 : Hid (B ≤ (w7.alloc (.cells #[.int .i64 (K : Int), .int .i64 ((n7 : Int) - 1), .int .i64 0, .int .i64 0, .string ⟨#[]⟩] 101)).heap.size) := Lib.hid (by simp; omega)
          go_wp2_with (at_builtin; go_must (refine wpList_append_own _ rfl _ _ 52 rfl B 101 i0 _ 5 48 Tryz.underlying52 hi hz0 hz1 hz2 rfl (by decide) _ n7 (ndsC (xs ++ flat xs.length x)) rfl HRO.out ⟨w7.heap.size, 0, none⟩ 1 1 [.int .i64 (K : Int), .int .i64 ((n7 : Int) - 1), .int .i64 0, .int .i64 0, .string ⟨#[]⟩] rfl rfl HNW.out (by simp [Value.oneCell']) HBB1.out HBB2.out HBB3.out ?_; intro v' w' hown hgr _; have HDN := Lib.hid (nd_after (nd := ⟨(K : Int), (n7 : Int) - 1, 0, 0, []⟩) HN7.out _ HO7.out hB7 hown hgr); obtain ⟨A', c', rfl⟩ := ownsRow_shape hown; clear hown hgr))
          go_wp2_with fail
          go_ret
          have hL7 := HL7.out
          have hsz7 := x.size_pos
          refine ⟨.un K 0 x, _, _, rfl, ⟨hKu, fun _ => rfl, by omega, by omega, HG7.out.1⟩, by rw [Ex.size]; omega, by rw [Ex.depth]; have := HG7.out.2; omega, ?_, HT7.out.below HDN.out.2, HK7.out.below HDN.out.2⟩
          rw [flat, ← List.append_assoc, show ((xs.length + x.size - 1 : Nat) : Int) = (n7 : Int) - 1 by omega]
          exact HDN.out.1
      · rw [hop] at HOP
        clear hop hx24
        go_wp2_with fail
        refine (HRK.out _ HTX.out).mono ?_
        rintro e w2 ⟨rfl, ht2, hk2⟩
        have HT2 := Lib.hid ht2
        have HV2 := Lib.hid (HVX.out.kbx hgB hk2)
        have HK2 := Lib.hid (HKX.out.trans (hk2 B))
        have hB2 : B ≤ w2.heap.size := Nat.le_trans hBx (hk2 B).size
        clear ht2 hk2
        go_wp2_with fail
        refine (HOP.out _).mono ?_
        rintro e w3 ⟨rfl, rfl⟩
        have HK6 := Lib.hid HK2.out
        have hB6 := hB2
        go_wp2_with fail
        refine (HIH.out m (by omega) B g _ L l a2 (.slice A0 xs.length c0) (xs) closed (D - 1) HT2.out HV2.out hB2 hm1 (by have := HDD.out; omega) (by omega) (by omega)).mono ?_
        rintro e w7 hpost
        obtain ⟨x, v7, a7, rfl, hg7, hs7, hdp7, hown7, htp7, hk7⟩ := hpost
        obtain ⟨A7, c7, n7, rfl, hn7⟩ := hown7.shape3
        have hL7 : n7 = xs.length + x.size := by rw [hn7, List.length_append, flat_len]
        have HW7 : Hid (w7.ownsRow B 101 5 (.slice A7 n7 c7) n7 (ndsC (xs ++ flat xs.length x))) := Lib.hid (by
          have h := hown7
          unfold OwnNd at h
          rw [← hn7] at h
          exact h)
        have HL7 := Lib.hid hL7
        have hb7a : n7 ≤ 100000 := by omega
        have hb7b : 1 ≤ n7 := by have := x.size_pos; omega
        have HO7 := Lib.hid hown7
        have HN7 := Lib.hid hn7
        have HT7 := Lib.hid htp7
        have HG7 := Lib.hid (And.intro hg7 hdp7)
        have HK7 := Lib.hid (HK6.out.trans hk7)
        have hB7 : B ≤ w7.heap.size := Nat.le_trans hB6 hk7.size
        clear hg7 hdp7 hown7 htp7 hk7 hn7 hL7
        have hw7 : IntKind.i64.wrap ((n7 : Int) - 1) = (n7 : Int) - 1 := IntWalk.i64_in _ (by omega)
        go_wp2_with fail
        refine (HIH.out m (by omega) B g _ L l a7 (.slice A7 n7 c7) (xs ++ flat xs.length x) closed (D - 1) HT7.out HO7.out hB7 hm1 (by have := HDD.out; omega) (by rw [← HN7.out]; have := HL7.out; omega) (by omega)).mono ?_
        rintro e w8 hpost
        obtain ⟨y, v8, a8, rfl, hg8, hs8, hdp8, hown8, htp8, hk8⟩ := hpost
        have hL7z := HL7.out
        obtain ⟨A8, c8, n8, rfl, hn8⟩ := hown8.shape3
        have hL8 : n8 = n7 + y.size := by rw [hn8, List.length_append, flat_len, ← HN7.out]
        have HW8 : Hid (w8.ownsRow B 101 5 (.slice A8 n8 c8) n8 (ndsC ((xs ++ flat xs.length x) ++ flat (xs ++ flat xs.length x).length y))) := Lib.hid (by
          have h := hown8
          unfold OwnNd at h
          rw [← hn8] at h
          exact h)
        have HL8 := Lib.hid hL8
        have hb8a : n8 ≤ 100000 := by omega
        have hb8b : 1 ≤ n8 := by have := y.size_pos; omega
        have HO8 := Lib.hid hown8
        have HN8 := Lib.hid hn8
        have HT8 := Lib.hid htp8
        have HG8 := Lib.hid (And.intro hg8 hdp8)
        have HK8 := Lib.hid (HK7.out.trans hk8)
        have hB8 : B ≤ w8.heap.size := Nat.le_trans hB7 hk8.size
        clear hg8 hdp8 hown8 htp8 hk8 hn8 hL8 hL7z
        have hw8 : IntKind.i64.wrap ((n8 : Int) - 1) = (n8 : Int) - 1 := IntWalk.i64_in _ (by omega)
        have HRO : Hid ((w8.alloc (.cells #[.int .i64 (K : Int), .int .i64 ((n7 : Int) - 1), .int .i64 ((n8 : Int) - 1), .int .i64 0, .string ⟨#[]⟩] 101)).ownsRow B 101 5 _ n8 (ndsC ((xs ++ flat xs.length x) ++ flat (xs ++ flat xs.length x).length y))) := Lib.hid (ownsRow_below HW8.out (fun k _ hk => Below.heap_alloc _ _ k hk))
        have HNW := Lib.hid (newsL w8 101 [.int .i64 (K : Int), .int .i64 ((n7 : Int) - 1), .int .i64 ((n8 : Int) - 1), .int .i64 0, .string ⟨#[]⟩])
        have HBB1 : Hid (n8 + 1 ≤ maxLen) := Lib.hid (by unfold maxLen; omega)
        have HBB2 : Hid ((n8 + 1) * 48 ≤ 140737488355328) := Lib.hid (by omega)
        have HBB3 : Hid (B ≤ (w8.alloc (.cells #[.int .i64 (K : Int), .int .i64 ((n7 : Int) - 1), .int .i64 ((n8 : Int) - 1), .int .i64 0, .string ⟨#[]⟩] 101)).heap.size) := Lib.hid (by simp; omega)
        go_wp2_with (at_builtin; go_must (refine wpList_append_own _ rfl _ _ 52 rfl B 101 i0 _ 5 48 Tryz.underlying52 hi hz0 hz1 hz2 rfl (by decide) _ n8 (ndsC ((xs ++ flat xs.length x) ++ flat (xs ++ flat xs.length x).length y)) rfl HRO.out ⟨w8.heap.size, 0, none⟩ 1 1 [.int .i64 (K : Int), .int .i64 ((n7 : Int) - 1), .int .i64 ((n8 : Int) - 1), .int .i64 0, .string ⟨#[]⟩] rfl rfl HNW.out (by simp [Value.oneCell']) HBB1.out HBB2.out HBB3.out ?_; intro v' w' hown hgr _; have HDN := Lib.hid (nd_after (nd := ⟨(K : Int), (n7 : Int) - 1, (n8 : Int) - 1, 0, []⟩) HN8.out _ HO8.out hB8 hown hgr); obtain ⟨A', c', rfl⟩ := ownsRow_shape hown; clear hown hgr))
        go_wp2_with fail
        go_ret
        have hL7 := HL7.out
        have hL8 := HL8.out
        have hsz7 := x.size_pos
        have hsz8 := y.size_pos
        refine ⟨.bin K x y, _, _, rfl, ⟨hKu, HG7.out.1, HG8.out.1⟩, by rw [Ex.size]; omega, by rw [Ex.depth]; have := HG7.out.2; have := HG8.out.2; omega, ?_, HT8.out.below HDN.out.2, HK8.out.below HDN.out.2⟩
        rw [flat, show ((xs.length + x.size - 1 : Nat) : Int) = (n7 : Int) - 1 by omega, show ((xs.length + x.size + y.size - 1 : Nat) : Int) = (n8 : Int) - 1 by omega]
        have h9 := HDN.out.1
        rw [show (xs ++ flat xs.length x).length = xs.length + x.size by rw [← HN7.out]; exact hL7] at h9
        simp only [List.append_assoc] at h9 ⊢
        exact h9
    · clear hq HIH HRK hr16
      obtain rfl | h12 | h34 : x5 = 0 ∨ (x5 = 1 ∨ x5 = 2) ∨ (x5 = 3 ∨ x5 = 4) := by omega
      · go_wp2_with fail
        refine (HN5.out _ HTX.out).mono ?_
        rintro e w2 ⟨rfl, ht2, hk2⟩
        have HT2 := Lib.hid ht2
        have HV2 := Lib.hid (HVX.out.kbx hgB hk2)
        have HK2 := Lib.hid (HKX.out.trans (hk2 B))
        have hB2 : B ≤ w2.heap.size := Nat.le_trans hBx (hk2 B).size
        clear ht2 hk2
        have HNN := Lib.hid (fun W h => next_any B g W L l a2 2 h (by decide) (by decide))
        have hr2 := nextV_range (l := l) (a := a2) (n := 2) (by decide)
        generalize nextV l a2 2 = y at *
        generalize nextA l a2 = a3 at *
        obtain rfl | rfl : y = 0 ∨ y = 1 := by omega
        · go_wp2_with fail
          refine (HNN.out _ HT2.out).mono ?_
          rintro e w3 ⟨rfl, ht3, hk3⟩
          have HT3 := Lib.hid ht3
          have HV3 := Lib.hid (HV2.out.kbx hgB hk3)
          have HK3 := Lib.hid (HK2.out.trans (hk3 B))
          have hB3 : B ≤ w3.heap.size := Nat.le_trans hB2 (hk3 B).size
          clear ht3 hk3
          have HRO : Hid ((w3.alloc (.cells #[.int .i64 3, .int .i64 0, .int .i64 0, .int .i64 0, .string ⟨#[]⟩] 101)).ownsRow B 101 5 _ xs.length (ndsC (xs))) := Lib.hid (ownsRow_below HV3.out (fun k _ hk => Below.heap_alloc _ _ k hk))
          have HNW := Lib.hid (newsL w3 101 [.int .i64 3, .int .i64 0, .int .i64 0, .int .i64 0, .string ⟨#[]⟩])
          have HBB1 : Hid (xs.length + 1 ≤ maxLen) := Lib.hid (by unfold maxLen; omega)
          have HBB2 : Hid ((xs.length + 1) * 48 ≤ 140737488355328) := Lib.hid (by omega)
          have HBB3 : Hid (B ≤ (w3.alloc (.cells #[.int .i64 3, .int .i64 0, .int .i64 0, .int .i64 0, .string ⟨#[]⟩] 101)).heap.size) := Lib.hid (by simp; omega)
          go_wp2_with (at_builtin; go_must (refine wpList_append_own _ rfl _ _ 52 rfl B 101 i0 _ 5 48 Tryz.underlying52 hi hz0 hz1 hz2 rfl (by decide) _ xs.length (ndsC (xs)) rfl HRO.out ⟨w3.heap.size, 0, none⟩ 1 1 [.int .i64 3, .int .i64 0, .int .i64 0, .int .i64 0, .string ⟨#[]⟩] rfl rfl HNW.out (by simp [Value.oneCell']) HBB1.out HBB2.out HBB3.out ?_; intro v' w' hown hgr _; have HDN := Lib.hid (nd_after (nd := ⟨3, 0, 0, 0, []⟩) rfl _ HV3.out hB3 hown hgr); obtain ⟨A', c', rfl⟩ := ownsRow_shape hown; clear hown hgr))
          go_wp2_with fail
          go_ret
          exact ⟨.leaf 3 [], _, _, rfl, .inr (.inr ⟨by omega, rfl⟩), by rw [Ex.size]; omega, hd1, HDN.out.1, HT3.out.below HDN.out.2, HK3.out.below HDN.out.2⟩
        · go_wp2_with fail
          refine (HNN.out _ HT2.out).mono ?_
          rintro e w3 ⟨rfl, ht3, hk3⟩
          have HT3 := Lib.hid ht3
          have HV3 := Lib.hid (HV2.out.kbx hgB hk3)
          have HK3 := Lib.hid (HK2.out.trans (hk3 B))
          have hB3 : B ≤ w3.heap.size := Nat.le_trans hB2 (hk3 B).size
          clear ht3 hk3
          have HRO : Hid ((w3.alloc (.cells #[.int .i64 4, .int .i64 0, .int .i64 0, .int .i64 0, .string ⟨#[]⟩] 101)).ownsRow B 101 5 _ xs.length (ndsC (xs))) := Lib.hid (ownsRow_below HV3.out (fun k _ hk => Below.heap_alloc _ _ k hk))
          have HNW := Lib.hid (newsL w3 101 [.int .i64 4, .int .i64 0, .int .i64 0, .int .i64 0, .string ⟨#[]⟩])
          have HBB1 : Hid (xs.length + 1 ≤ maxLen) := Lib.hid (by unfold maxLen; omega)
          have HBB2 : Hid ((xs.length + 1) * 48 ≤ 140737488355328) := Lib.hid (by omega)
          have HBB3 : Hid (B ≤ (w3.alloc (.cells #[.int .i64 4, .int .i64 0, .int .i64 0, .int .i64 0, .string ⟨#[]⟩] 101)).heap.size) := Lib.hid (by simp; omega)
          go_wp2_with (at_builtin; go_must (refine wpList_append_own _ rfl _ _ 52 rfl B 101 i0 _ 5 48 Tryz.underlying52 hi hz0 hz1 hz2 rfl (by decide) _ xs.length (ndsC (xs)) rfl HRO.out ⟨w3.heap.size, 0, none⟩ 1 1 [.int .i64 4, .int .i64 0, .int .i64 0, .int .i64 0, .string ⟨#[]⟩] rfl rfl HNW.out (by simp [Value.oneCell']) HBB1.out HBB2.out HBB3.out ?_; intro v' w' hown hgr _; have HDN := Lib.hid (nd_after (nd := ⟨4, 0, 0, 0, []⟩) rfl _ HV3.out hB3 hown hgr); obtain ⟨A', c', rfl⟩ := ownsRow_shape hown; clear hown hgr))
          go_wp2_with fail
          go_ret
          exact ⟨.leaf 4 [], _, _, rfl, .inr (.inr ⟨by omega, rfl⟩), by rw [Ex.size]; omega, hd1, HDN.out.1, HT3.out.below HDN.out.2, HK3.out.below HDN.out.2⟩
      · cases closed
        · obtain rfl | rfl := h12
          all_goals
            go_wp2_with fail
            refine (HN5.out _ HTX.out).mono ?_
            rintro e w2 ⟨rfl, ht2, hk2⟩
            have HT2 := Lib.hid ht2
            have HV2 := Lib.hid (HVX.out.kbx hgB hk2)
            have HK2 := Lib.hid (HKX.out.trans (hk2 B))
            have hB2 : B ≤ w2.heap.size := Nat.le_trans hBx (hk2 B).size
            clear ht2 hk2
            have HNN := Lib.hid (fun W h => next_any B g W L l a2 5 h (by decide) (by decide))
            have hr2 := nextV_range (l := l) (a := a2) (n := 5) (by decide)
            obtain ⟨t, hyl, hyt, hgt, htl⟩ := names_get hr2.1 hr2.2
            obtain ⟨hy0, hy1⟩ := hr2
            have HG3 := Lib.hid hgt
            have HYT := Lib.hid hyt
            generalize nextV l a2 5 = y at *
            generalize nextA l a2 = a3 at *
            clear hgt hyt
            go_wp2_with fail
            refine (names_any _).mono ?_
            rintro e w4 ⟨rfl, hb4, hx4⟩
            have HB4 := Lib.hid hb4
            have HX4 := Lib.hid hx4
            clear hb4 hx4
            go_wp2_with fail
            refine (names_any _).mono ?_
            rintro e w5 ⟨rfl, _, hx5⟩
            have HB5 := Lib.hid (HB4.out.ext hx5)
            have HX5 := Lib.hid (HX4.out.trans hx5)
            clear hx5
            go_wp2_with fail
            refine (HNN.out _ (HT2.out.below (Below.mono HX5.out hB2))).mono ?_
            rintro e w3 ⟨rfl, ht3, hk3⟩
            have hgl := HT2.out.blk.lt
            have hld := ((hk3 (w2.heap.size + 1)).blk HB5.out (by omega) (by omega)).cell y.toNat
            rw [List.getElem?_toArray, List.getElem?_map, List.getElem?_eq_getElem hyl] at hld
            rw [HYT.out] at hld
            have hld2 : w3.cell? ⟨w2.heap.size, y.toNat, none⟩ = some (str t) := hld
            have HT3 := Lib.hid ht3
            have HV3 := Lib.hid ((HV2.out.ext HX5.out).kbx hgB hk3)
            have HK3 := Lib.hid ((HK2.out.ext HX5.out hB2).trans (hk3 B))
            have hB3 : B ≤ w3.heap.size := Nat.le_trans hB2 (Nat.le_trans HX5.out.size (hk3 B).size)
            clear ht3 hk3 hld hgl
            have HRO : Hid ((w3.alloc (.cells #[.int .i64 2, .int .i64 0, .int .i64 0, .int .i64 0, str t] 101)).ownsRow B 101 5 _ xs.length (ndsC (xs))) := Lib.hid (ownsRow_below HV3.out (fun k _ hk => Below.heap_alloc _ _ k hk))
            have HNW := Lib.hid (newsL w3 101 [.int .i64 2, .int .i64 0, .int .i64 0, .int .i64 0, str t])
            have HBB1 : Hid (xs.length + 1 ≤ maxLen) := Lib.hid (by unfold maxLen; omega)
            have HBB2 : Hid ((xs.length + 1) * 48 ≤ 140737488355328) := Lib.hid (by omega)
            have HBB3 : Hid (B ≤ (w3.alloc (.cells #[.int .i64 2, .int .i64 0, .int .i64 0, .int .i64 0, str t] 101)).heap.size) := Lib.hid (by simp; omega)
            go_wp2_with (at_builtin; go_must (refine wpList_append_own _ rfl _ _ 52 rfl B 101 i0 _ 5 48 Tryz.underlying52 hi hz0 hz1 hz2 rfl (by decide) _ xs.length (ndsC (xs)) rfl HRO.out ⟨w3.heap.size, 0, none⟩ 1 1 [.int .i64 2, .int .i64 0, .int .i64 0, .int .i64 0, str t] rfl rfl HNW.out (by simp [Value.oneCell', str]) HBB1.out HBB2.out HBB3.out ?_; intro v' w' hown hgr _; have HDN := Lib.hid (nd_after (nd := ⟨2, 0, 0, 0, t⟩) rfl _ HV3.out hB3 hown hgr); obtain ⟨A', c', rfl⟩ := ownsRow_shape hown; clear hown hgr))
            go_wp2_with fail
            go_ret
            exact ⟨.leaf 2 t, _, _, rfl, .inr (.inl ⟨rfl, HG3.out⟩), by rw [Ex.size]; omega, hd1, HDN.out.1, HT3.out.below HDN.out.2, HK3.out.below HDN.out.2⟩
        · obtain rfl | rfl := h12
          all_goals
            go_wp2_with fail
            refine (HN5.out _ HTX.out).mono ?_
            rintro e w2 ⟨rfl, ht2, hk2⟩
            have HT2 := Lib.hid ht2
            have HV2 := Lib.hid (HVX.out.kbx hgB hk2)
            have HK2 := Lib.hid (HKX.out.trans (hk2 B))
            have hB2 : B ≤ w2.heap.size := Nat.le_trans hBx (hk2 B).size
            clear ht2 hk2
            go_wp2_with fail
            refine (number_any B g _ L l a2 HT2.out hB2).mono ?_
            rintro e w3 ⟨t, rfl, hc7, htl, ht3, hk3⟩
            have HG3 := Lib.hid (And.intro hc7 htl)
            clear hc7 htl
            have HT3 := Lib.hid ht3
            have HV3 := Lib.hid (HV2.out.kbs hgB hk3)
            have HK3 := Lib.hid (HK2.out.trans (hk3.mono hB2))
            have hB3 : B ≤ w3.heap.size := Nat.le_trans hB2 hk3.size
            clear ht3 hk3
            have HRO : Hid ((w3.alloc (.cells #[.int .i64 1, .int .i64 0, .int .i64 0, .int .i64 0, str t] 101)).ownsRow B 101 5 _ xs.length (ndsC (xs))) := Lib.hid (ownsRow_below HV3.out (fun k _ hk => Below.heap_alloc _ _ k hk))
            have HNW := Lib.hid (newsL w3 101 [.int .i64 1, .int .i64 0, .int .i64 0, .int .i64 0, str t])
            have HBB1 : Hid (xs.length + 1 ≤ maxLen) := Lib.hid (by unfold maxLen; omega)
            have HBB2 : Hid ((xs.length + 1) * 48 ≤ 140737488355328) := Lib.hid (by omega)
            have HBB3 : Hid (B ≤ (w3.alloc (.cells #[.int .i64 1, .int .i64 0, .int .i64 0, .int .i64 0, str t] 101)).heap.size) := Lib.hid (by simp; omega)
            go_wp2_with (at_builtin; go_must (refine wpList_append_own _ rfl _ _ 52 rfl B 101 i0 _ 5 48 Tryz.underlying52 hi hz0 hz1 hz2 rfl (by decide) _ xs.length (ndsC (xs)) rfl HRO.out ⟨w3.heap.size, 0, none⟩ 1 1 [.int .i64 1, .int .i64 0, .int .i64 0, .int .i64 0, str t] rfl rfl HNW.out (by simp [Value.oneCell', str]) HBB1.out HBB2.out HBB3.out ?_; intro v' w' hown hgr _; have HDN := Lib.hid (nd_after (nd := ⟨1, 0, 0, 0, t⟩) rfl _ HV3.out hB3 hown hgr); obtain ⟨A', c', rfl⟩ := ownsRow_shape hown; clear hown hgr))
            go_wp2_with fail
            go_ret
            exact ⟨.leaf 1 t, _, _, rfl, .inl ⟨rfl, HG3.out.1, Nat.le_trans HG3.out.2 (by decide)⟩, by rw [Ex.size]; omega, hd1, HDN.out.1, HT3.out.below HDN.out.2, HK3.out.below HDN.out.2⟩
      · obtain rfl | rfl := h34
        all_goals
          go_wp2_with fail
          refine (HN5.out _ HTX.out).mono ?_
          rintro e w2 ⟨rfl, ht2, hk2⟩
          have HT2 := Lib.hid ht2
          have HV2 := Lib.hid (HVX.out.kbx hgB hk2)
          have HK2 := Lib.hid (HKX.out.trans (hk2 B))
          have hB2 : B ≤ w2.heap.size := Nat.le_trans hBx (hk2 B).size
          clear ht2 hk2
          go_wp2_with fail
          refine (number_any B g _ L l a2 HT2.out hB2).mono ?_
          rintro e w3 ⟨t, rfl, hc7, htl, ht3, hk3⟩
          have HG3 := Lib.hid (And.intro hc7 htl)
          clear hc7 htl
          have HT3 := Lib.hid ht3
          have HV3 := Lib.hid (HV2.out.kbs hgB hk3)
          have HK3 := Lib.hid (HK2.out.trans (hk3.mono hB2))
          have hB3 : B ≤ w3.heap.size := Nat.le_trans hB2 hk3.size
          clear ht3 hk3
          have HRO : Hid ((w3.alloc (.cells #[.int .i64 1, .int .i64 0, .int .i64 0, .int .i64 0, str t] 101)).ownsRow B 101 5 _ xs.length (ndsC (xs))) := Lib.hid (ownsRow_below HV3.out (fun k _ hk => Below.heap_alloc _ _ k hk))
          have HNW := Lib.hid (newsL w3 101 [.int .i64 1, .int .i64 0, .int .i64 0, .int .i64 0, str t])
          have HBB1 : Hid (xs.length + 1 ≤ maxLen) := Lib.hid (by unfold maxLen; omega)
          have HBB2 : Hid ((xs.length + 1) * 48 ≤ 140737488355328) := Lib.hid (by omega)
          have HBB3 : Hid (B ≤ (w3.alloc (.cells #[.int .i64 1, .int .i64 0, .int .i64 0, .int .i64 0, str t] 101)).heap.size) := Lib.hid (by simp; omega)
          go_wp2_with (at_builtin; go_must (refine wpList_append_own _ rfl _ _ 52 rfl B 101 i0 _ 5 48 Tryz.underlying52 hi hz0 hz1 hz2 rfl (by decide) _ xs.length (ndsC (xs)) rfl HRO.out ⟨w3.heap.size, 0, none⟩ 1 1 [.int .i64 1, .int .i64 0, .int .i64 0, .int .i64 0, str t] rfl rfl HNW.out (by simp [Value.oneCell', str]) HBB1.out HBB2.out HBB3.out ?_; intro v' w' hown hgr _; have HDN := Lib.hid (nd_after (nd := ⟨1, 0, 0, 0, t⟩) rfl _ HV3.out hB3 hown hgr); obtain ⟨A', c', rfl⟩ := ownsRow_shape hown; clear hown hgr))
          go_wp2_with fail
          go_ret
          exact ⟨.leaf 1 t, _, _, rfl, .inl ⟨rfl, HG3.out.1, Nat.le_trans HG3.out.2 (by decide)⟩, by rw [Ex.size]; omega, hd1, HDN.out.1, HT3.out.below HDN.out.2, HK3.out.below HDN.out.2⟩
end Big
end Go.Proofs.YtoehdoghghpmjaaGreatDoor
/- mill.Expr; ref20.Level. -/
namespace Go.Proofs.YtoehdoghghpmjaaGreatDoor
namespace Big
open Go.RowKit
set_option maxRecDepth 100000 in
theorem expr_any (d g : Nat) (w : World) (L : Value) (l : List Int) (a : Nat) (closed : Bool) (h : TapeAt w.heap.size g w L l a) (hd : 1 ≤ d) (hd2 : d ≤ 16) : Calls Tryz.prog 24 #[.pointer (some ⟨g, 0, none⟩), .int .i64 (d : Int), .bool closed] w (PartPost w.heap.size g w L l [] d) := by
  have hp : 2 ^ d ≤ 2 ^ 16 := Nat.pow_le_pow_right (by omega) hd2
  have HP := Lib.hid (part_any d w.heap.size g w L l a (.slice none 0 0) [] closed (d : Int) h (OwnNd.nil _ w) (Nat.le_refl _) hd rfl (by simp; omega) (by omega))
  clear h hp
  go_enter Tryz.func24, Tryz.ntmps24
  go_wp2_with fail
  refine HP.out.mono ?_
  rintro e w2 ⟨x, v', a', rfl, h1, h2, h3, h4, h5, h6⟩
  have HE := Lib.hid (And.intro h1 (And.intro h2 (And.intro h3 (And.intro h4 (And.intro h5 h6)))))
  clear h1 h2 h3 h4 h5 h6
  go_wp2_with fail
  go_ret
  obtain ⟨h1, h2, h3, h4, h5, h6⟩ := HE.out
  exact ⟨x, v', a', rfl, h1, h2, h3, h4, h5, h6⟩
set_option maxRecDepth 100000 in
theorem level_any (w : World) (k : Nat) (a b n : Int) (t : List UInt8) (h1 : 1 ≤ k) (h2 : k ≤ 16) : Calls Tryz.prog 71 #[.agg #[.int .i64 (k : Int), .int .i64 a, .int .i64 b, .int .i64 n, str t]] w fun e w' => e = .returned (.int .i64 (levelK k : Int)) ∧ Ext w w' := by
  obtain ⟨s, hs⟩ : ∃ s : ByteArray, s = ⟨t.toArray⟩ := ⟨_, rfl⟩
  have hst : str t = .string s := by rw [hs]; rfl
  rw [hst]
  clear hst hs
  have HOP := Lib.hid (fun W => operands_any W (k : Int))
  have hop : 0 ≤ operI (k : Int) := by
    unfold operI
    repeat' split
    all_goals omega
  generalize operI (k : Int) = o at *
  have key : (k = 6 ∨ k = 7) ∨ (k = 8 ∨ k = 9) ∨ k = 5 ∨ k = 10 ∨ (k ≠ 6 ∧ k ≠ 7 ∧ k ≠ 8 ∧ k ≠ 9 ∧ k ≠ 5 ∧ k ≠ 10) := by omega
  have hb1 := Blk.new w 101 #[.int .i64 (k : Int), .int .i64 a, .int .i64 b, .int .i64 n, .string s]
  have hc := hb1.cell 0
  have HX := Lib.hid ((Ext.refl w).alloc (.cells #[.int .i64 (k : Int), .int .i64 a, .int .i64 b, .int .i64 n, .string s] 101))
  have hc0 : (w.alloc (.cells #[.int .i64 (k : Int), .int .i64 a, .int .i64 b, .int .i64 n, .string s] 101)).cell? ⟨w.heap.size, 0, none⟩ = some (.int .i64 (k : Int)) := hc
  clear hb1 hc
  rcases key with hk | hk | hk | hk | ⟨n1, n2, n3, n4, n5, n6⟩
  · have HL : Hid (levelK k = 1) := Lib.hid (by unfold levelK; rw [if_pos hk])
    rcases hk with rfl | rfl
    all_goals
      go_enter Tryz.func71, Tryz.ntmps71
      go_wp2_with fail
      refine (HOP.out _).mono ?_
      rintro e w1 ⟨rfl, rfl⟩
      go_wp2_with fail
      go_ret
      exact ⟨by rw [HL.out]; rfl, HX.out⟩
  · have HL : Hid (levelK k = 2) := Lib.hid (by unfold levelK; rw [if_neg (by omega), if_pos hk])
    rcases hk with rfl | rfl
    all_goals
      go_enter Tryz.func71, Tryz.ntmps71
      go_wp2_with fail
      refine (HOP.out _).mono ?_
      rintro e w1 ⟨rfl, rfl⟩
      go_wp2_with fail
      go_ret
      exact ⟨by rw [HL.out]; rfl, HX.out⟩
  · subst hk
    go_enter Tryz.func71, Tryz.ntmps71
    go_wp2_with fail
    refine (HOP.out _).mono ?_
    rintro e w1 ⟨rfl, rfl⟩
    go_wp2_with fail
    go_ret
    exact ⟨rfl, HX.out⟩
  · subst hk
    go_enter Tryz.func71, Tryz.ntmps71
    go_wp2_with fail
    refine (HOP.out _).mono ?_
    rintro e w1 ⟨rfl, rfl⟩
    go_wp2_with fail
    go_ret
    exact ⟨rfl, HX.out⟩
  · have HL : Hid (levelK k = 5) := Lib.hid (by unfold levelK; rw [if_neg (by omega), if_neg (by omega), if_neg (by omega), if_neg (by omega)])
    have e1 : ((k : Int) == 6) = false := by rw [beq_eq_false_iff_ne]; omega
    have e2 : ((k : Int) == 7) = false := by rw [beq_eq_false_iff_ne]; omega
    have e3 : ((k : Int) == 8) = false := by rw [beq_eq_false_iff_ne]; omega
    have e4 : ((k : Int) == 9) = false := by rw [beq_eq_false_iff_ne]; omega
    have e5 : ((k : Int) == 5) = false := by rw [beq_eq_false_iff_ne]; omega
    have e6 : ((k : Int) == 10) = false := by rw [beq_eq_false_iff_ne]; omega
    clear n1 n2 n3 n4 n5 n6
    go_enter Tryz.func71, Tryz.ntmps71
    go_wp2_with fail
    refine (HOP.out _).mono ?_
    rintro e w1 ⟨rfl, rfl⟩
    go_wp2_with fail
    go_ret
    exact ⟨by rw [HL.out]; rfl, HX.out⟩
end Big
end Go.Proofs.YtoehdoghghpmjaaGreatDoor
