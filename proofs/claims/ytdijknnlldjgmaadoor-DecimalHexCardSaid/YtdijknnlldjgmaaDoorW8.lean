import Derived.Test.YtdijknnlldjgmaaDoorW7
namespace Go.Proofs.YtdijknnlldjgmaaDoor
namespace Big
open Go.RowKit

theorem rsub_lt (w : World) (v u : Value) (xs ys : List Nat) (h : Arr w v xs) (h' : Arr w u ys) (hn : xs.length ≤ 1073741824) (hn' : ys.length ≤ 1073741824) (hlt : val xs < val ys) :
    Calls Tryd.prog 57 #[v, u] w fun e w' => e = .returned (.tuple #[.slice none 0 0, .bool false]) ∧ w = w' := by
  have HC := rcmp_any w v u xs ys h h' hn hn'
  rw [cmpI_lt hlt] at HC
  have HC := Lib.hid HC
  clear h h' hlt
  go_enter Tryd.func57, Tryd.ntmps57
  go_wp2_with fail
  refine HC.out.mono ?_; rintro e w' ⟨rfl, rfl⟩
  go_wp2_with fail
  go_ret2
  exact ⟨rfl, rfl⟩

theorem rsub_ge (w : World) (v u : Value) (xs ys : List Nat) (h : Arr w v xs) (h' : Arr w u ys) (hn : xs.length ≤ 536870912) (hn' : ys.length ≤ 1073741824) (hle : val ys ≤ val xs) :
    Calls Tryd.prog 57 #[v, u] w fun e w' => ∃ v', e = .returned (.tuple #[v', .bool true]) ∧ Own w.heap.size w' v' (limbs (val xs - val ys)) ∧ Ext w w' := by
  have HC := Lib.hid (rcmp_any w v u xs ys h h' (by omega) hn')
  have HA := Lib.hid h
  have HB := Lib.hid h'
  obtain ⟨hok, A, c, rfl, hc, hm, hcell⟩ := h.open
  obtain ⟨hok', A', c', rfl, hc', hm', hcell'⟩ := h'.open
  have hcm : ¬ cmpI (val xs) (val ys) < 0 := by rw [cmpI_neg]; omega
  have HLE := Lib.hid hle
  clear h h' hcell hcell' hm hm' hc hc' hle
  generalize cmpI (val xs) (val ys) = cc at HC hcm
  go_enter Tryd.func57, Tryd.ntmps57
  go_wp2_with fail
  refine HC.out.mono ?_; rintro e w' ⟨rfl, rfl⟩
  go_wp2_with fail
  go_loopw [6, 7, 8] (fun out cy i wr => ∃ (k q : Nat) (zs : List Nat), k ≤ xs.length ∧ q ≤ 1 ∧ i = .int .i64 k ∧ cy = .int .u64 q ∧ zs.length = k ∧
      val (xs.take k) + 4294967296 ^ k * q = val zs + val (ys.take k) ∧ Own w.heap.size wr out zs ∧ Ext w wr) (fun _ _ i _ => xs.length - (intOf i).toNat)
  case atStart => exact ⟨0, 0, [], Nat.zero_le _, by omega, rfl, rfl, rfl, by simp [val], Own.none_ _ _, Ext.refl w⟩
  case round =>
    obtain ⟨k, q, zs, hk, hq, rfl, rfl, hl, hv, hown, hext⟩ := hrel
    have HV := Lib.hid hv; clear hv
    have HL := Lib.hid hl; clear hl
    have hwr := hext.size
    by_cases hlt : k < xs.length
    · have HX := Lib.hid (rat_any wr _ xs (k : Int) (HA.out.ext hext) (by omega))
      have HY := Lib.hid (rat_any wr _ ys (k : Int) (HB.out.ext hext) (by omega))
      rw [Int.toNat_natCast] at HX HY
      have hxm := hok.get k
      have hym := hok'.get k
      have HS := Lib.hid (fun z c' h => @sub_step xs ys zs k q z c' HL.out HV.out h)
      obtain ⟨x, hxe⟩ : ∃ x, xs.getD k 0 = x := ⟨_, rfl⟩
      obtain ⟨y, hye⟩ : ∃ y, ys.getD k 0 = y := ⟨_, rfl⟩
      rw [hxe] at HX HS hxm
      rw [hye] at HY HS hym
      clear hxe hye
      have HLIM := Lib.hid (show ∀ z : Nat, zs.length + [z].length ≤ 2147483648 from fun z => by simp [HL.out]; omega)
      by_cases hb : x < y + q
      · obtain ⟨z, hz, hzl⟩ : ∃ z, x + 4294967296 * 1 = z + y + q ∧ z < 4294967296 := ⟨x + 4294967296 - (y + q), by omega, by omega⟩
        have HZ := Lib.hid hz; clear hz
        go_wp2_with fail
        refine HX.out.mono ?_; rintro e w' ⟨rfl, rfl⟩
        go_wp2_with fail
        refine HY.out.mono ?_; rintro e w' ⟨rfl, rfl⟩
        go_wp2_with (at_builtin; go_must (refine wpList_append32 rfl _ _ rfl rfl (hown.ext ((Ext.refl _).alloc _)) rfl (Arr.fresh1' _ _ z (by have := HZ.out; omega) hzl) (HLIM.out z) (by simp; omega) ?_; intro v' w' hown' hgr hb))
        go_roundw
        case rel => exact ⟨k + 1, 1, _, by omega, by omega, by go_num, rfl, by simp [HL.out], HS.out z 1 HZ.out, hown', (hext.alloc _).more hb⟩
        case measure => simp [intOf]; omega
      · obtain ⟨z, hz, hzl⟩ : ∃ z, x + 4294967296 * 0 = z + y + q ∧ z < 4294967296 := ⟨x - (y + q), by omega, by omega⟩
        have HZ := Lib.hid hz; clear hz
        go_wp2_with fail
        refine HX.out.mono ?_; rintro e w' ⟨rfl, rfl⟩
        go_wp2_with fail
        refine HY.out.mono ?_; rintro e w' ⟨rfl, rfl⟩
        go_wp2_with (at_builtin; go_must (refine wpList_append32 rfl _ _ rfl rfl (hown.ext ((Ext.refl _).alloc _)) rfl (Arr.fresh1' _ _ z (by have := HZ.out; omega) hzl) (HLIM.out z) (by simp; omega) ?_; intro v' w' hown' hgr hb))
        go_roundw
        case rel => exact ⟨k + 1, 0, _, by omega, by omega, by go_num, rfl, by simp [HL.out], HS.out z 0 HZ.out, hown', (hext.alloc _).more hb⟩
        case measure => simp [intOf]; omega
    · obtain rfl : k = xs.length := by omega
      have hval := sub_end hok hown.ok (.inl (List.drop_eq_nil_of_le (Nat.le_refl _))) HL.out HLE.out HV.out
      have HT := rtrim_any _ _ _ hown.arr (by rw [HL.out]; omega)
      rw [hval] at HT
      have HT := Lib.hid HT
      clear hval
      go_wp2_with fail
      refine HT.out.mono ?_
      rintro e w2 ⟨v2, rfl, ho, hx⟩
      go_wp2_with fail
      go_ret2
      exact ⟨_, rfl, ho.mono hext.size, hext.trans hx⟩

theorem rless_any (w : World) (v u : Value) (xs ys : List Nat) (h : Arr w v xs) (h' : Arr w u ys) (hn : xs.length ≤ 536870912) (hn' : ys.length ≤ 1073741824) :
    Calls Tryd.prog 50 #[v, u] w fun e w' => ∃ v', e = .returned v' ∧ Own w.heap.size w' v' (limbs (val xs - val ys)) ∧ Ext w w' := by
  rcases Nat.lt_or_ge (val xs) (val ys) with hlt | hle
  · have HS := Lib.hid (rsub_lt w v u xs ys h h' (by omega) hn' hlt)
    have h0 : val xs - val ys = 0 := by omega
    rw [h0]
    clear h h' hlt h0
    go_enter Tryd.func50, Tryd.ntmps50
    go_wp2_with fail
    refine HS.out.mono ?_; rintro e w' ⟨rfl, rfl⟩
    go_wp2_with fail
    go_ret
    exact ⟨_, rfl, Own.none_ _ _, Ext.refl _⟩
  · have HS := Lib.hid (rsub_ge w v u xs ys h h' hn hn' hle)
    clear h h' hle
    go_enter Tryd.func50, Tryd.ntmps50
    go_wp2_with fail
    refine HS.out.mono ?_; rintro e w' ⟨v', rfl, ho, hx⟩
    go_wp2_with fail
    go_ret
    exact ⟨_, rfl, ho, hx⟩
end Big
end Go.Proofs.YtdijknnlldjgmaaDoor
