import Derived.Test.YtplmldkfgeiklaaGreatDoorM6
import Derived.Test.YtplmldkfgeiklaaGreatDoorM7
import Derived.Test.YtplmldkfgeiklaaGreatDoorM5
/- nat.Sub. -/
namespace Go.Proofs.YtplmldkfgeiklaaGreatDoor
namespace Big
open Go.RowKit
/-- What nat.Sub holds ahead of digit k. -/
def SubAt (w0 wr : World) (N : Nat) (xs ys : List Nat) (k q : Nat) : Prop :=
  ∃ zs : List Nat, zs.length = k ∧ Ok zs ∧ val (xs.take k) + 4294967296 ^ k * q = val zs + val (ys.take k) ∧
    Blk wr w0.heap.size 74 (cells (zs ++ List.replicate (N - k) 0)) ∧ Ext w0 wr
theorem SubAt.step {w0 wr : World} {N : Nat} {xs ys zs : List Nat} {k q z q' : Nat} (hk : k < N) (hl : zs.length = k) (hok : Ok zs) (hz : z < 4294967296)
    (h : val (xs.take k) + 4294967296 ^ k * q = val zs + val (ys.take k)) (ht : xs.getD k 0 + 4294967296 * q' = z + ys.getD k 0 + q)
    (hb : Blk wr w0.heap.size 74 (cells (zs ++ List.replicate (N - k) 0))) (he : Ext w0 wr) :
    SubAt w0 (wr.setCell ⟨w0.heap.size, k, none⟩ (d32 z)) N xs ys (k + 1) q' := by
  refine ⟨zs ++ [z], by simp [hl], hok.snoc hz, sub_step hl h ht, ?_, he.setCell (Nat.le_refl _) _⟩
  have h1 := hb.set_ k (d32 z)
  rw [set_cells, show N - k = (N - (k + 1)) + 1 by omega] at h1
  have h2 := set_front zs (N - (k + 1)) z
  rw [hl] at h2
  rw [h2] at h1
  exact h1
theorem nsub_lt (w : World) (v u : Value) (xs ys : List Nat) (h : Arr w v xs) (h' : Arr w u ys) (hn : xs.length ≤ 536870912) (hn' : ys.length ≤ 536870912) (hlt : val xs < val ys) :
    Calls Tryz.prog 141 #[v, u] w fun e w' => e = .returned (.tuple #[.slice none 0 0, .bool false]) ∧ Ext w w' := by
  have HC := cmp_any w v u xs ys h h' (by omega) (by omega)
  rw [cmpI_lt hlt] at HC
  have HC := Lib.hid HC
  clear h h' hlt
  go_enter Tryz.func141, Tryz.ntmps141
  go_wp2_with fail
  refine HC.out.mono ?_; rintro e w' ⟨rfl, hx⟩
  go_wp2_with fail
  go_ret2
  exact ⟨rfl, hx⟩
set_option maxHeartbeats 1000000 in
theorem nsub_ge (w : World) (v u : Value) (xs ys : List Nat) (h : Arr w v xs) (h' : Arr w u ys) (hn : xs.length ≤ 536870912) (hn' : ys.length ≤ 536870912) (hle : val ys ≤ val xs) :
    Calls Tryz.prog 141 #[v, u] w fun e w' => ∃ v', e = .returned (.tuple #[v', .bool true]) ∧ Own w.heap.size w' v' (limbs (val xs - val ys)) ∧ Ext w w' := by
  have HCM := Lib.hid (cmp_any w v u xs ys h h' (by omega) (by omega))
  have HSZ := Lib.hid (fun W hx => size_any W v xs (h.ext hx))
  have hcm : ¬ cmpI (val xs) (val ys) < 0 := by rw [cmpI_neg]; omega
  obtain ⟨hok, A, cap, rfl, hcap, hmx, hcell⟩ := h.open
  obtain ⟨hok', A', cap', rfl, hcap', hmx', hcell'⟩ := h'.open
  have HC := Lib.hid hcell
  have HC' := Lib.hid hcell'
  have HLE := Lib.hid hle
  have hsl := size_le xs
  have HTS := Lib.hid (show val (xs.drop (size xs)) = 0 by
    have h1 := val_split' xs (size xs)
    rw [take_size hok, val_limbs] at h1
    have : 0 < 4294967296 ^ size xs := pow_pos' _
    rcases Nat.eq_zero_or_pos (val (xs.drop (size xs))) with h0 | h0
    · exact h0
    · have := Nat.mul_le_mul_left (4294967296 ^ size xs) h0
      omega)
  generalize hN : size xs = N at *
  have HN := Lib.hid hN
  clear h h' hcell hcell' hmx hmx' hcap hcap' hle hN
  generalize cmpI (val xs) (val ys) = cc at HCM hcm
  have hmk := run_make32 N (by omega)
  go_enter Tryz.func141, Tryz.ntmps141
  go_wp2_with fail
  refine HCM.out.mono ?_; rintro e w1 ⟨rfl, hx1⟩
  have HX1 := Lib.hid hx1
  clear hx1
  go_wp2_with fail
  refine (HSZ.out _ HX1.out).mono ?_; rintro e w2 ⟨rfl, rfl⟩
  have HX0 := Lib.hid (HX1.out.alloc (.cells (Array.replicate N (.int .u32 0)) 74))
  go_wp2_with fail
  clear hmk
  go_loopw [7, 19] (fun cy i wr => ∃ k q : Nat, k ≤ N ∧ q ≤ 1 ∧ i = .int .i64 k ∧ cy = .int .u32 q ∧ SubAt w1 wr N xs ys k q) (fun _ i _ => N - (intOf i).toNat)
  case atStart => exact ⟨0, 0, Nat.zero_le _, by omega, rfl, rfl, [], rfl, ok_nil, by simp [val], Blk.new _ _ _, (Ext.refl w1).alloc _⟩
  case round =>
    obtain ⟨k, q, hk, hq, rfl, rfl, zs, hl, hokz, hv, hblk, hext⟩ := hrel
    have HV := Lib.hid hv; clear hv
    have HB := Lib.hid hblk; clear hblk
    have HL := Lib.hid hl; clear hl
    have hext0 := HX1.out.trans hext
    by_cases hlt : k < N
    · obtain ⟨b, o, rfl, hb, hcell⟩ := HC.out (by omega)
      have hx := (hext0.cell hb).trans (hcell k (by omega))
      have hst := HB.out.cell k
      have hfz := HB.out.frozen k
      rw [get_cells _ _ (by simp [HL.out]; omega)] at hst
      clear hcell
      have hxm := hok.get k
      by_cases hk2 : k < ys.length
      · obtain ⟨b', o', rfl, hb', hcell'⟩ := HC'.out (by omega)
        have hy := (hext0.cell hb').trans (hcell' k hk2)
        clear hcell'
        have hym := hok'.get k
        have HS := Lib.hid (fun z q' hz h => SubAt.step (z := z) (q' := q') hlt HL.out hokz hz HV.out h HB.out hext)
        obtain ⟨x, hxe⟩ : ∃ x, xs.getD k 0 = x := ⟨_, rfl⟩
        obtain ⟨y, hye⟩ : ∃ y, ys.getD k 0 = y := ⟨_, rfl⟩
        rw [hxe] at hx hxm HS
        rw [hye] at hy hym HS
        clear hxe hye
        have HSB := Lib.hid (fun W => sub32_any W x y q hxm hym hq)
        simp only [d32] at hx hst hy
        have hkx : (k : Int) < (xs.length : Int) := by omega
        have hkN : (k : Int) < (N : Int) := by omega
        have hky : (k : Int) < (ys.length : Int) := by omega
        clear hext hext0 hsl hlt
        go_wp2_with fail
        refine (HSB.out _).mono ?_
        rintro e w3 ⟨d, b', rfl, hd, hb1, hsum, rfl⟩
        have HR := Lib.hid (HS.out d b' hd hsum)
        simp only [d32] at HR
        clear hsum
        go_wp2_with fail
        go_roundw
        case rel => exact ⟨k + 1, b', by omega, hb1, by go_num, by go_num, HR.out⟩
        case measure => simp [intOf]; omega
      · have h0 : ys.getD k 0 = 0 := getD_ge ys k (by omega)
        have HS := Lib.hid (fun z q' hz h => SubAt.step (z := z) (q' := q') hlt HL.out hokz hz HV.out h HB.out hext)
        obtain ⟨x, hxe⟩ : ∃ x, xs.getD k 0 = x := ⟨_, rfl⟩
        rw [h0] at HS
        rw [hxe] at hx hxm HS
        clear hxe h0
        have HSB := Lib.hid (fun W => sub32_any W x 0 q hxm (by omega) hq)
        simp only [d32] at hx hst
        have hkx : (k : Int) < (xs.length : Int) := by omega
        have hkN : (k : Int) < (N : Int) := by omega
        have hky : ¬ (k : Int) < (ys.length : Int) := by omega
        clear hext hext0 hsl hlt
        go_wp2_with fail
        refine (HSB.out _).mono ?_
        rintro e w3 ⟨d, b', rfl, hd, hb1, hsum, rfl⟩
        have HR := Lib.hid (HS.out d b' hd hsum)
        simp only [d32] at HR
        clear hsum
        go_wp2_with fail
        go_roundw
        case rel => exact ⟨k + 1, b', by omega, hb1, by go_num, by go_num, HR.out⟩
        case measure => simp [intOf]; omega
    · obtain rfl : k = N := by omega
      have hval := sub_end hok hokz (.inr HTS.out) HL.out HLE.out HV.out
      have hlast : Own w1.heap.size wr (.slice (some ⟨w1.heap.size, 0, none⟩) k k) zs := by
        have h1 := HB.out
        rw [Nat.sub_self, List.replicate_zero, List.append_nil] at h1
        have h3 := Own.block (B := w1.heap.size) hokz h1 (Nat.le_refl _) (by rw [HL.out]; omega)
        rwa [HL.out] at h3
      have HT := Lib.hid (size_any _ _ _ hlast.arr)
      have hsz := size_le zs
      rw [HL.out] at hsz
      obtain ⟨A1, c1, hv1, HO⟩ := hlast.take (size zs) (by rw [HL.out]; exact hsz)
      rw [take_size hlast.ok, hval] at HO
      rw [HL.out] at hv1
      injection hv1 with hv1 hv3 hv2
      clear hv3
      subst hv1
      subst hv2
      have HO := Lib.hid (HO.mono HX1.out.size)
      have HXT := Lib.hid hext0
      generalize size zs = sz at *
      clear hval hlast hext hext0
      go_wp2_with fail
      refine HT.out.mono ?_
      rintro e w' ⟨rfl, rfl⟩
      go_wp2_with fail
      go_ret2
      exact ⟨_, rfl, HO.out, HXT.out⟩
end Big
end Go.Proofs.YtplmldkfgeiklaaGreatDoor
namespace Go.Proofs.YtplmldkfgeiklaaGreatDoor
namespace Big
open Go.RowKit

theorem rsub_lt (w : World) (v u : Value) (xs ys : List Nat) (h : Arr w v xs) (h' : Arr w u ys) (hn : xs.length ≤ 1073741824) (hn' : ys.length ≤ 1073741824) (hlt : val xs < val ys) :
    Calls Tryz.prog 166 #[v, u] w fun e w' => e = .returned (.tuple #[.slice none 0 0, .bool false]) ∧ w = w' := by
  have HC := rcmp_any w v u xs ys h h' hn hn'
  rw [cmpI_lt hlt] at HC
  have HC := Lib.hid HC
  clear h h' hlt
  go_enter Tryz.func166, Tryz.ntmps166
  go_wp2_with fail
  refine HC.out.mono ?_; rintro e w' ⟨rfl, rfl⟩
  go_wp2_with fail
  go_ret2
  exact ⟨rfl, rfl⟩

theorem rsub_ge (w : World) (v u : Value) (xs ys : List Nat) (h : Arr w v xs) (h' : Arr w u ys) (hn : xs.length ≤ 536870912) (hn' : ys.length ≤ 1073741824) (hle : val ys ≤ val xs) :
    Calls Tryz.prog 166 #[v, u] w fun e w' => ∃ v', e = .returned (.tuple #[v', .bool true]) ∧ Own w.heap.size w' v' (limbs (val xs - val ys)) ∧ Ext w w' := by
  have HC := Lib.hid (rcmp_any w v u xs ys h h' (by omega) hn')
  have HA := Lib.hid h
  have HB := Lib.hid h'
  obtain ⟨hok, A, c, rfl, hc, hm, hcell⟩ := h.open
  obtain ⟨hok', A', c', rfl, hc', hm', hcell'⟩ := h'.open
  have hcm : ¬ cmpI (val xs) (val ys) < 0 := by rw [cmpI_neg]; omega
  have HLE := Lib.hid hle
  clear h h' hcell hcell' hm hm' hc hc' hle
  generalize cmpI (val xs) (val ys) = cc at HC hcm
  go_enter Tryz.func166, Tryz.ntmps166
  go_wp2_with fail
  refine HC.out.mono ?_; rintro e w' ⟨rfl, rfl⟩
  go_wp2_with fail
  go_loopw [6, 7, 8] (fun out cy i wr => ∃ (k q : Nat) (zs : List Nat), k ≤ xs.length ∧ q ≤ 1 ∧ i = .int .i64 k ∧ cy = .int .u64 q ∧ zs.length = k ∧
      val (xs.take k) + 4294967296 ^ k * q = val zs + val (ys.take k) ∧ Own w.heap.size wr out zs ∧ Ext w wr) (fun _ _ i _ => xs.length - (intOf i).toNat)
  case atStart => exact ⟨0, 0, [], Nat.zero_le _, by omega, rfl, rfl, rfl, by simp [val], Own.none_ _ _, Ext.refl w⟩
  case round =>
    obtain ⟨k, q, zs, hk, hq, rfl, rfl, hl, hv, hown, hext⟩ := hrel
    have HV := Lib.hid hv; clear hv
    have HL := Lib.hid hl; clear hl
    have hwr := hext.size
    by_cases hlt : k < xs.length
    · have HX := Lib.hid (rat_any wr _ xs (k : Int) (HA.out.ext hext) (by omega))
      have HY := Lib.hid (rat_any wr _ ys (k : Int) (HB.out.ext hext) (by omega))
      rw [Int.toNat_natCast] at HX HY
      have hxm := hok.get k
      have hym := hok'.get k
      have HS := Lib.hid (fun z c' h => @sub_step xs ys zs k q z c' HL.out HV.out h)
      obtain ⟨x, hxe⟩ : ∃ x, xs.getD k 0 = x := ⟨_, rfl⟩
      obtain ⟨y, hye⟩ : ∃ y, ys.getD k 0 = y := ⟨_, rfl⟩
      rw [hxe] at HX HS hxm
      rw [hye] at HY HS hym
      clear hxe hye
      have HLIM := Lib.hid (show ∀ z : Nat, zs.length + [z].length ≤ 2147483648 from fun z => by simp [HL.out]; omega)
      by_cases hb : x < y + q
      · obtain ⟨z, hz, hzl⟩ : ∃ z, x + 4294967296 * 1 = z + y + q ∧ z < 4294967296 := ⟨x + 4294967296 - (y + q), by omega, by omega⟩
        have HZ := Lib.hid hz; clear hz
        go_wp2_with fail
        refine HX.out.mono ?_; rintro e w' ⟨rfl, rfl⟩
        go_wp2_with fail
        refine HY.out.mono ?_; rintro e w' ⟨rfl, rfl⟩
        go_wp2_with (at_builtin; go_must (refine wpList_append32 rfl _ _ rfl rfl (hown.ext ((Ext.refl _).alloc _)) rfl (Arr.fresh1' _ _ z (by have := HZ.out; omega) hzl) (HLIM.out z) (by simp; omega) ?_; intro v' w' hown' hgr hb))
        go_roundw
        case rel => exact ⟨k + 1, 1, _, by omega, by omega, by go_num, rfl, by simp [HL.out], HS.out z 1 HZ.out, hown', (hext.alloc _).more hb⟩
        case measure => simp [intOf]; omega
      · obtain ⟨z, hz, hzl⟩ : ∃ z, x + 4294967296 * 0 = z + y + q ∧ z < 4294967296 := ⟨x - (y + q), by omega, by omega⟩
        have HZ := Lib.hid hz; clear hz
        go_wp2_with fail
        refine HX.out.mono ?_; rintro e w' ⟨rfl, rfl⟩
        go_wp2_with fail
        refine HY.out.mono ?_; rintro e w' ⟨rfl, rfl⟩
        go_wp2_with (at_builtin; go_must (refine wpList_append32 rfl _ _ rfl rfl (hown.ext ((Ext.refl _).alloc _)) rfl (Arr.fresh1' _ _ z (by have := HZ.out; omega) hzl) (HLIM.out z) (by simp; omega) ?_; intro v' w' hown' hgr hb))
        go_roundw
        case rel => exact ⟨k + 1, 0, _, by omega, by omega, by go_num, rfl, by simp [HL.out], HS.out z 0 HZ.out, hown', (hext.alloc _).more hb⟩
        case measure => simp [intOf]; omega
    · obtain rfl : k = xs.length := by omega
      have hval := sub_end hok hown.ok (.inl (List.drop_eq_nil_of_le (Nat.le_refl _))) HL.out HLE.out HV.out
      have HT := rtrim_any _ _ _ hown.arr (by rw [HL.out]; omega)
      rw [hval] at HT
      have HT := Lib.hid HT
      clear hval
      go_wp2_with fail
      refine HT.out.mono ?_
      rintro e w2 ⟨v2, rfl, ho, hx⟩
      go_wp2_with fail
      go_ret2
      exact ⟨_, rfl, ho.mono hext.size, hext.trans hx⟩

theorem rless_any (w : World) (v u : Value) (xs ys : List Nat) (h : Arr w v xs) (h' : Arr w u ys) (hn : xs.length ≤ 536870912) (hn' : ys.length ≤ 1073741824) :
    Calls Tryz.prog 144 #[v, u] w fun e w' => ∃ v', e = .returned v' ∧ Own w.heap.size w' v' (limbs (val xs - val ys)) ∧ Ext w w' := by
  rcases Nat.lt_or_ge (val xs) (val ys) with hlt | hle
  · have HS := Lib.hid (rsub_lt w v u xs ys h h' (by omega) hn' hlt)
    have h0 : val xs - val ys = 0 := by omega
    rw [h0]
    clear h h' hlt h0
    go_enter Tryz.func144, Tryz.ntmps144
    go_wp2_with fail
    refine HS.out.mono ?_; rintro e w' ⟨rfl, rfl⟩
    go_wp2_with fail
    go_ret
    exact ⟨_, rfl, Own.none_ _ _, Ext.refl _⟩
  · have HS := Lib.hid (rsub_ge w v u xs ys h h' hn hn' hle)
    clear h h' hle
    go_enter Tryz.func144, Tryz.ntmps144
    go_wp2_with fail
    refine HS.out.mono ?_; rintro e w' ⟨v', rfl, ho, hx⟩
    go_wp2_with fail
    go_ret
    exact ⟨_, rfl, ho, hx⟩
end Big
end Go.Proofs.YtplmldkfgeiklaaGreatDoor
/- The reference's Add of naturals. -/
namespace Go.Proofs.YtplmldkfgeiklaaGreatDoor
namespace Big
open Go.RowKit
theorem radd1_lt (w : World) (v u : Value) (xs ys : List Nat) (h : Arr w v xs) (h' : Arr w u ys) (hn : xs.length ≤ 536870912) (hn' : ys.length ≤ 536870912) (hcm : xs.length < ys.length) :
    Calls Tryz.prog 143 #[v, u] w fun e w' => ∃ v', e = .returned v' ∧ Own w.heap.size w' v' (limbs (val xs + val ys)) ∧ Ext w w' := by
  have HA := Lib.hid h
  have HB := Lib.hid h'
  obtain ⟨hok, A, c, rfl, hc, hm, hcell⟩ := h.open
  obtain ⟨hok', A', c', rfl, hc', hm', hcell'⟩ := h'.open
  have hml : xs.length ≤ ys.length ∧ ys.length ≤ ys.length ∧ ys.length ≤ 536870912 := by omega
  clear h h' hcell hcell' hm hm' hc hc'
  go_enter Tryz.func143, Tryz.ntmps143
  go_wp2_with fail
  go_loopw [5, 6, 7] (fun out cy i wr => ∃ (k q : Nat) (zs : List Nat), k ≤ ys.length + 1 ∧ q ≤ 1 ∧ (k = ys.length + 1 → q = 0) ∧ i = .int .i64 k ∧ cy = .int .u64 q ∧ zs.length = k ∧
      val zs + 4294967296 ^ k * q = val (xs.take k) + val (ys.take k) ∧ Own w.heap.size wr out zs ∧ Ext w wr) (fun _ _ i _ => ys.length + 1 - (intOf i).toNat)
  case atStart => exact ⟨0, 0, [], Nat.zero_le _, by omega, by omega, rfl, rfl, rfl, by simp [val], Own.none_ _ _, Ext.refl w⟩
  case round =>
    obtain ⟨k, q, zs, hk, hq, hq0, rfl, rfl, hl, hv, hown, hext⟩ := hrel
    have HV := Lib.hid hv; clear hv
    have HL := Lib.hid hl; clear hl
    have hwr := hext.size
    by_cases hlt : k ≤ ys.length
    · have hkM : (k : Int) ≤ (ys.length : Int) := by omega
      have HX := Lib.hid (rat_any wr _ xs (k : Int) (HA.out.ext hext) (by omega))
      have HY := Lib.hid (rat_any wr _ ys (k : Int) (HB.out.ext hext) (by omega))
      rw [Int.toNat_natCast] at HX HY
      have hxm := hok.get k
      have hym := hok'.get k
      have HS := Lib.hid (fun t h => @add_step xs ys zs k q t HL.out HV.out h)
      have hlast : k = ys.length → xs.getD k 0 = 0 ∧ ys.getD k 0 = 0 := fun e => ⟨getD_ge xs k (by omega), getD_ge ys k (by omega)⟩
      obtain ⟨x, hxe⟩ : ∃ x, xs.getD k 0 = x := ⟨_, rfl⟩
      obtain ⟨y, hye⟩ : ∃ y, ys.getD k 0 = y := ⟨_, rfl⟩
      rw [hxe] at HX HS hxm hlast
      rw [hye] at HY HS hym hlast
      clear hxe hye
      have hz0 : k + 1 = ys.length + 1 → (q + x + y) / 4294967296 = 0 := fun e => by have := hlast (by omega); omega
      have HLIM := Lib.hid (show ∀ z : Nat, zs.length + [z].length ≤ 2147483648 from fun z => by simp [HL.out]; omega)
      have HZ := Lib.hid (show (q + x + y) % 4294967296 < 4294967296 from Nat.mod_lt _ (by omega))
      have HQ0 := Lib.hid hz0
      clear hlast hz0
      go_wp2_with fail
      refine HX.out.mono ?_; rintro e w' ⟨rfl, rfl⟩
      go_wp2_with fail
      refine HY.out.mono ?_; rintro e w' ⟨rfl, rfl⟩
      go_wp2_with (at_builtin; go_must (refine wpList_append32 rfl _ _ rfl rfl (hown.ext ((Ext.refl _).alloc _)) rfl (Arr.fresh1' _ _ ((q + x + y) % 4294967296) (by omega) HZ.out) (HLIM.out _) (by simp; omega) ?_; intro v' w' hown' hgr hb))
      go_roundw
      case rel => exact ⟨k + 1, (q + x + y) / 4294967296, _, by omega, by omega, HQ0.out, by go_num, by go_num, by simp [HL.out], HS.out _ rfl, hown', (hext.alloc _).more hb⟩
      case measure => simp [intOf]; omega
    · obtain rfl : k = ys.length + 1 := by omega
      have hkM : ¬ (((ys.length + 1 : Nat) : Int)) ≤ (ys.length : Int) := by omega
      have hq := hq0 rfl
      subst hq
      have hval := HV.out
      rw [Nat.mul_zero, Nat.add_zero, List.take_of_length_le (by omega), List.take_of_length_le (by omega)] at hval
      have HT := rtrim_any _ _ _ hown.arr (by rw [HL.out]; omega)
      rw [hval] at HT
      have HT := Lib.hid HT
      clear hval
      go_wp2_with fail
      refine HT.out.mono ?_
      rintro e w2 ⟨v2, rfl, ho, hx⟩
      go_wp2_with fail
      go_ret
      exact ⟨_, rfl, ho.mono hext.size, hext.trans hx⟩
theorem radd1_ge (w : World) (v u : Value) (xs ys : List Nat) (h : Arr w v xs) (h' : Arr w u ys) (hn : xs.length ≤ 536870912) (_hn' : ys.length ≤ 536870912) (hcm : ¬ xs.length < ys.length) :
    Calls Tryz.prog 143 #[v, u] w fun e w' => ∃ v', e = .returned v' ∧ Own w.heap.size w' v' (limbs (val xs + val ys)) ∧ Ext w w' := by
  have HA := Lib.hid h
  have HB := Lib.hid h'
  obtain ⟨hok, A, c, rfl, hc, hm, hcell⟩ := h.open
  obtain ⟨hok', A', c', rfl, hc', hm', hcell'⟩ := h'.open
  have hml : xs.length ≤ xs.length ∧ ys.length ≤ xs.length ∧ xs.length ≤ 536870912 := by omega
  clear h h' hcell hcell' hm hm' hc hc'
  go_enter Tryz.func143, Tryz.ntmps143
  go_wp2_with fail
  go_loopw [5, 6, 7] (fun out cy i wr => ∃ (k q : Nat) (zs : List Nat), k ≤ xs.length + 1 ∧ q ≤ 1 ∧ (k = xs.length + 1 → q = 0) ∧ i = .int .i64 k ∧ cy = .int .u64 q ∧ zs.length = k ∧
      val zs + 4294967296 ^ k * q = val (xs.take k) + val (ys.take k) ∧ Own w.heap.size wr out zs ∧ Ext w wr) (fun _ _ i _ => xs.length + 1 - (intOf i).toNat)
  case atStart => exact ⟨0, 0, [], Nat.zero_le _, by omega, by omega, rfl, rfl, rfl, by simp [val], Own.none_ _ _, Ext.refl w⟩
  case round =>
    obtain ⟨k, q, zs, hk, hq, hq0, rfl, rfl, hl, hv, hown, hext⟩ := hrel
    have HV := Lib.hid hv; clear hv
    have HL := Lib.hid hl; clear hl
    have hwr := hext.size
    by_cases hlt : k ≤ xs.length
    · have hkM : (k : Int) ≤ (xs.length : Int) := by omega
      have HX := Lib.hid (rat_any wr _ xs (k : Int) (HA.out.ext hext) (by omega))
      have HY := Lib.hid (rat_any wr _ ys (k : Int) (HB.out.ext hext) (by omega))
      rw [Int.toNat_natCast] at HX HY
      have hxm := hok.get k
      have hym := hok'.get k
      have HS := Lib.hid (fun t h => @add_step xs ys zs k q t HL.out HV.out h)
      have hlast : k = xs.length → xs.getD k 0 = 0 ∧ ys.getD k 0 = 0 := fun e => ⟨getD_ge xs k (by omega), getD_ge ys k (by omega)⟩
      obtain ⟨x, hxe⟩ : ∃ x, xs.getD k 0 = x := ⟨_, rfl⟩
      obtain ⟨y, hye⟩ : ∃ y, ys.getD k 0 = y := ⟨_, rfl⟩
      rw [hxe] at HX HS hxm hlast
      rw [hye] at HY HS hym hlast
      clear hxe hye
      have hz0 : k + 1 = xs.length + 1 → (q + x + y) / 4294967296 = 0 := fun e => by have := hlast (by omega); omega
      have HLIM := Lib.hid (show ∀ z : Nat, zs.length + [z].length ≤ 2147483648 from fun z => by simp [HL.out]; omega)
      have HZ := Lib.hid (show (q + x + y) % 4294967296 < 4294967296 from Nat.mod_lt _ (by omega))
      have HQ0 := Lib.hid hz0
      clear hlast hz0
      go_wp2_with fail
      refine HX.out.mono ?_; rintro e w' ⟨rfl, rfl⟩
      go_wp2_with fail
      refine HY.out.mono ?_; rintro e w' ⟨rfl, rfl⟩
      go_wp2_with (at_builtin; go_must (refine wpList_append32 rfl _ _ rfl rfl (hown.ext ((Ext.refl _).alloc _)) rfl (Arr.fresh1' _ _ ((q + x + y) % 4294967296) (by omega) HZ.out) (HLIM.out _) (by simp; omega) ?_; intro v' w' hown' hgr hb))
      go_roundw
      case rel => exact ⟨k + 1, (q + x + y) / 4294967296, _, by omega, by omega, HQ0.out, by go_num, by go_num, by simp [HL.out], HS.out _ rfl, hown', (hext.alloc _).more hb⟩
      case measure => simp [intOf]; omega
    · obtain rfl : k = xs.length + 1 := by omega
      have hkM : ¬ (((xs.length + 1 : Nat) : Int)) ≤ (xs.length : Int) := by omega
      have hq := hq0 rfl
      subst hq
      have hval := HV.out
      rw [Nat.mul_zero, Nat.add_zero, List.take_of_length_le (by omega), List.take_of_length_le (by omega)] at hval
      have HT := rtrim_any _ _ _ hown.arr (by rw [HL.out]; omega)
      rw [hval] at HT
      have HT := Lib.hid HT
      clear hval
      go_wp2_with fail
      refine HT.out.mono ?_
      rintro e w2 ⟨v2, rfl, ho, hx⟩
      go_wp2_with fail
      go_ret
      exact ⟨_, rfl, ho.mono hext.size, hext.trans hx⟩
theorem radd1_any (w : World) (v u : Value) (xs ys : List Nat) (h : Arr w v xs) (h' : Arr w u ys) (hn : xs.length ≤ 536870912) (hn' : ys.length ≤ 536870912) :
    Calls Tryz.prog 143 #[v, u] w fun e w' => ∃ v', e = .returned v' ∧ Own w.heap.size w' v' (limbs (val xs + val ys)) ∧ Ext w w' := by
  by_cases hc : xs.length < ys.length
  · exact radd1_lt w v u xs ys h h' hn hn' hc
  · exact radd1_ge w v u xs ys h h' hn hn' hc
end Big
end Go.Proofs.YtplmldkfgeiklaaGreatDoor
/- The reference's Mul. -/
namespace Go.Proofs.YtplmldkfgeiklaaGreatDoor
namespace Big
open Go.RowKit

set_option maxHeartbeats 1000000 in
theorem rmul2_any (w : World) (v u : Value) (xs ys : List Nat) (h : Arr w v xs) (h' : Arr w u ys) (hn : xs.length ≤ 268435456) (hn' : ys.length ≤ 268435456) :
    Calls Tryz.prog 108 #[v, u] w fun e w' => ∃ v', e = .returned v' ∧ Own w.heap.size w' v' (limbs (val xs * val ys)) ∧ Ext w w' := by
  obtain ⟨hok, A, cap, rfl, hcap, hmx, hcell⟩ := h.open
  obtain ⟨hok', A', cap', rfl, hcap', hmx', hcell'⟩ := h'.open
  have HC := Lib.hid hcell
  have HC' := Lib.hid hcell'
  have hmk := run_make32 (xs.length + ys.length) (by omega)
  simp only [Int.natCast_add] at hmk
  clear h h' hcell hcell' hmx hmx' hcap hcap'
  go_enter Tryz.func108, Tryz.ntmps108
  go_wp2_with fail
  clear hmk
  go_loopw [19] (fun i wr => ∃ k : Nat, k ≤ xs.length ∧ i = .int .i64 k ∧ MulAt w wr xs ys k) (fun i _ => xs.length - (intOf i).toNat)
  case atStart => exact ⟨0, Nat.zero_le _, rfl, List.replicate (xs.length + ys.length) 0, by simp, Ok.zeros _, by simp [val, val_zeros], fun j _ => by rw [List.getD_eq_getElem?_getD, List.getElem?_replicate]; split <;> rfl, Blk.new _ _ _, (Ext.refl w).alloc _⟩
  case round =>
    obtain ⟨i, hi, rfl, os, hl, hoko, hv, hz, hblk, hext⟩ := hrel
    have HV := Lib.hid hv; clear hv
    have HZ := Lib.hid hz; clear hz
    have HB := Lib.hid hblk; clear hblk
    have HL := Lib.hid hl; clear hl
    by_cases hlt : i < xs.length
    · obtain ⟨b, o, rfl, hb, hcell⟩ := HC.out (by omega)
      have hx := (hext.cell hb).trans (hcell i hlt)
      have HXC := Lib.hid hcell
      clear hcell
      have hxm := hok.get i
      obtain ⟨x, hxe⟩ : ∃ x, xs.getD i 0 = x := ⟨_, rfl⟩
      rw [hxe] at hx hxm
      have HXE := Lib.hid hxe
      clear hxe
      simp only [d32] at hx
      obtain ⟨wo, rfl⟩ : ∃ wo : World, wo = wr := ⟨_, rfl⟩
      go_wp2_with fail
      go_loopw [8, 26] (fun cy kk wr => ∃ k c : Nat, k ≤ ys.length ∧ c < 4294967296 ∧ kk = .int .i64 k ∧ cy = .int .u64 c ∧ MulIn w wr xs ys i k c) (fun _ kk _ => ys.length - (intOf kk).toNat)
      case atStart => exact ⟨0, 0, Nat.zero_le _, by omega, rfl, rfl, os, HL.out, hoko, by simp [val, HV.out], HZ.out, HB.out, hext⟩
      case round =>
        clear HV HZ HB HL hx hoko hext os
        obtain ⟨k, c, hk, hc, rfl, rfl, os, hl, hoko, hv, hz, hblk, hext⟩ := hrel
        have HV := Lib.hid hv; clear hv
        have HZ := Lib.hid hz; clear hz
        have HB := Lib.hid hblk; clear hblk
        have HL := Lib.hid hl; clear hl
        by_cases hlt2 : k < ys.length
        · obtain ⟨b', o', rfl, hb', hcell'⟩ := HC'.out (by omega)
          have hy := (hext.cell hb').trans (hcell' k hlt2)
          clear hcell'
          have hst := HB.out.cell (i + k)
          have hfz := HB.out.frozen (i + k)
          rw [get_cells _ _ (by rw [HL.out]; omega)] at hst
          have hym := hok'.get k
          have hom := hoko.get (i + k)
          have HS := Lib.hid (fun t h => MulIn.step (t := t) hlt hlt2 HL.out hoko HV.out HZ.out h HB.out hext)
          rw [HXE.out] at HS
          obtain ⟨y, hye⟩ : ∃ y, ys.getD k 0 = y := ⟨_, rfl⟩
          obtain ⟨z, hze⟩ : ∃ z, os.getD (i + k) 0 = z := ⟨_, rfl⟩
          rw [hye] at hy hym HS
          rw [hze] at hst hom HS
          clear hye hze
          have hp := prod_le2 hxm hym
          have hp' : (x : Int) * (y : Int) ≤ 18446744065119617025 := by rw [← Int.natCast_mul]; omega
          have hp0 : 0 ≤ (x : Int) * (y : Int) := by rw [← Int.natCast_mul]; omega
          simp only [d32] at hst hy
          go_wp2
          go_roundw
          case rel => exact ⟨k + 1, (c + x * y + z) / 4294967296, by omega, Nat.div_lt_of_lt_mul (by omega), by go_num, by go_num, HS.out (c + x * y + z) (Nat.add_assoc _ _ _)⟩
          case measure => simp [intOf]; omega
        · obtain rfl : k = ys.length := by omega
          have hst := HB.out.cell (i + ys.length)
          have hfz := HB.out.frozen (i + ys.length)
          rw [get_cells _ _ (by rw [HL.out]; omega)] at hst
          have HD := Lib.hid (MulIn.done hlt HL.out hoko hc HV.out HZ.out HB.out hext)
          generalize os.getD (i + ys.length) 0 = z at hst
          simp only [d32] at hst
          go_wp2
          go_roundw
          case rel => exact ⟨i + 1, by omega, by go_num, HD.out⟩
          case measure => simp [intOf]; omega
    · obtain rfl : i = xs.length := by omega
      have hlast : Own w.heap.size wr (.slice (some ⟨w.heap.size, 0, none⟩) (xs.length + ys.length) (xs.length + ys.length)) os := by
        have h3 := Own.block (B := w.heap.size) hoko HB.out (Nat.le_refl _) (by rw [HL.out]; omega)
        rwa [HL.out] at h3
      have HT := rtrim_any _ _ _ hlast.arr (by rw [HL.out]; omega)
      rw [HV.out, List.take_of_length_le (Nat.le_refl _)] at HT
      have HT := Lib.hid HT
      clear hlast
      go_wp2_with fail
      refine HT.out.mono ?_
      rintro e w' ⟨v', rfl, ho, hx⟩
      go_wp2_with fail
      go_ret
      exact ⟨_, rfl, ho.mono hext.size, hext.trans hx⟩
end Big
end Go.Proofs.YtplmldkfgeiklaaGreatDoor
