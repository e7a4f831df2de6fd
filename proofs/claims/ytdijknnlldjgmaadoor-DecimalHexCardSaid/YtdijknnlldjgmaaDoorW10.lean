import Derived.Test.YtdijknnlldjgmaaDoorW9
import Derived.Test.YtdijknnlldjgmaaDoorPlain2
namespace Go.Proofs.YtdijknnlldjgmaaDoor
namespace Big
open Go.RowKit

/-- What the long division holds with the digits below k still to come. -/
def DivAt (w0 wr : World) (rv : Value) (xs : List Nat) (b k r : Nat) : Prop :=
  ∃ qs : List Nat, k + qs.length = xs.length ∧ Ok qs ∧ val qs * b + r = val (xs.drop k) ∧
    Blk wr w0.heap.size 54 (cells (List.replicate k 0 ++ qs)) ∧ Arr wr rv (limbs r) ∧ Ext w0 wr

theorem rdivmod_any (w : World) (v u : Value) (xs ys : List Nat) (h : Arr w v xs) (h' : Arr w u ys) (hn : xs.length ≤ 134217728) (hn' : ys.length ≤ 134217728) (hy : 0 < val ys) :
    Calls Tryd.prog 35 #[v, u] w fun e w' => ∃ v' u', e = .returned (.tuple #[v', u', .bool true]) ∧ Own w.heap.size w' v' (limbs (val xs / val ys)) ∧ Arr w' u' (limbs (val xs % val ys)) ∧ Ext w w' := by
  have HA := Lib.hid h
  have HB := Lib.hid h'
  obtain ⟨hok, A, c, rfl, hc, hm, hcell⟩ := h.open
  obtain ⟨hok', A', c', rfl, hc', hm', hcell'⟩ := h'.open
  have HC := Lib.hid hcell
  have hl0 : 0 < ys.length := by
    rcases Nat.eq_zero_or_pos ys.length with h0 | h0
    · have := List.eq_nil_of_length_eq_zero h0; subst this; simp [val] at hy
    · exact h0
  have hlb : ((ys.length : Int) == 0) = false := by rw [beq_eq_false_iff_ne]; omega
  have hmk := run_make32 xs.length (by omega)
  clear h h' hcell hcell' hm hm' hc hc'
  go_enter Tryd.func35, Tryd.ntmps35
  go_wp2_with fail
  clear hmk
  go_loopw [8, 9] (fun rv i wr => ∃ k r : Nat, k ≤ xs.length ∧ r < val ys ∧ i = .int .i64 ((k : Int) - 1) ∧ DivAt w wr rv xs (val ys) k r) (fun _ i _ => (intOf i + 1).toNat)
  case atStart => exact ⟨xs.length, 0, Nat.le_refl _, hy, rfl, [], rfl, ok_nil, by simp [val], by simpa [zeros_cells] using Blk.new w 54 (zeros xs.length), Arr.none_ _, (Ext.refl w).alloc _⟩
  case round =>
    obtain ⟨k, r, hk, hr, rfl, qs, hl, hokq, hv, hblk, har, hext⟩ := hrel
    have HV := Lib.hid hv; clear hv
    have HBK := Lib.hid hblk; clear hblk
    have HL := Lib.hid hl; clear hl
    have HR := Lib.hid hr; clear hr
    have HY := Lib.hid hy; clear hy
    rcases Nat.eq_zero_or_pos k with h0 | h0
    · subst h0
      obtain ⟨hq1, hq2⟩ := quo_end HR.out (by simpa using HV.out)
      have hlen : qs.length = xs.length := by simpa using HL.out
      have hlast : Own w.heap.size wr (.slice (some ⟨w.heap.size, 0, none⟩) xs.length xs.length) qs := by
        have h3 := Own.block (B := w.heap.size) hokq (by simpa using HBK.out) (Nat.le_refl _) (by omega)
        rwa [hlen] at h3
      have HT := Lib.hid (rtrim_any _ _ _ hlast.arr (by omega))
      rw [hq1] at HT
      rw [hq2] at har
      clear hq1 hq2 hlast hlen
      go_wp2_with fail
      refine HT.out.mono ?_
      rintro e w' ⟨v', rfl, ho, hx⟩
      go_wp2_with fail
      go_ret3
      exact ⟨_, _, rfl, ho.mono hext.size, har.ext hx, hext.trans hx⟩
    · obtain ⟨m, rfl⟩ : ∃ m, k = m + 1 := ⟨k - 1, by omega⟩
      obtain ⟨b, o, rfl, hb, hcell⟩ := HC.out (by omega)
      have hx := (hext.cell hb).trans (hcell m (by omega))
      clear hcell
      have hxm := hok.get m
      have HS := Lib.hid (div_step (k := m) HV.out)
      obtain ⟨x, hxe⟩ : ∃ x, xs.getD m 0 = x := ⟨_, rfl⟩
      rw [hxe] at hx hxm HS
      clear hxe
      have hwr := hext.size
      have hrl := length_limbs_lt hok' (Nat.le_of_lt HR.out)
      have HLIM := Lib.hid (show [x].length + (limbs r).length ≤ 2147483648 by simp; omega)
      simp only [d32] at hx
      go_wp2_with (at_builtin; go_must (refine wpList_append32 rfl _ _ rfl rfl (Own.fresh1' _ _ x rfl hxm) rfl (har.ext ((Ext.refl _).alloc _)) HLIM.out (by simp) ?_; intro v1 w1 hown1 hgr hb1))
      have he1 : Ext wr w1 := ((Ext.refl wr).alloc _).more hb1
      have hval : val ([x] ++ limbs r) = x + 4294967296 * r := by simp [val, val_limbs]
      have HT := rtrim_any w1 v1 _ hown1.arr (by simp; omega)
      rw [hval] at HT
      have hN1 := div_lt HR.out hxm
      have hN2 := div_bound HR.out hxm
      have hNl := limbs_len_step hok' hN2
      have hmod := Nat.mod_lt (x + 4294967296 * r) HY.out
      clear hval hgr hown1
      obtain ⟨N, hN⟩ : ∃ N, x + 4294967296 * r = N := ⟨_, rfl⟩
      rw [hN] at HT HS hN1 hN2 hNl hmod
      clear hN
      have HMOD := Lib.hid hmod; clear hmod
      have HN2 := Lib.hid hN2; clear hN2
      refine HT.mono ?_
      rintro e w2 ⟨v2, rfl, ho2, hx2⟩
      have he2 := hext.trans (he1.trans hx2)
      have HCM := rcmp_any w2 v2 _ _ ys ho2.arr (HB.out.ext he2) (by omega) (by omega)
      rw [val_limbs] at HCM
      rcases Nat.lt_or_ge N (val ys) with hlt | hge
      · have hcm : ¬ 0 ≤ cmpI N (val ys) := by rw [cmpI_lt hlt]; omega
        have HZ := Lib.hid (Nat.div_eq_of_lt hlt)
        have HZ2 := Lib.hid (Nat.mod_eq_of_lt hlt)
        have HLT := Lib.hid hlt; clear hlt hN1 HT hNl
        have HCM := Lib.hid HCM
        generalize cmpI N (val ys) = cc at HCM hcm
        go_wp2_with fail
        refine HCM.out.mono ?_; rintro e w3 ⟨rfl, rfl⟩
        go_wp2_with fail
        go_roundw
        case rel =>
          refine ⟨m, N, by omega, HLT.out, rfl, 0 :: qs, by have := HL.out; simp; omega, ok_cons (by omega) hokq, ?_, ?_, ho2.arr, he2⟩
          · have := HS.out; rw [HZ.out, HZ2.out] at this; exact this
          · have h1 := HBK.out.ext (he1.trans hx2)
            rw [List.replicate_succ', List.append_assoc] at h1
            exact h1
        case measure => simp [intOf]
      · have hcm : 0 ≤ cmpI N (val ys) := by unfold cmpI; split <;> (try split) <;> omega
        have HGE := Lib.hid hge; clear hge
        have HCM := Lib.hid HCM
        generalize cmpI N (val ys) = cc at HCM hcm
        go_wp2_with fail
        refine HCM.out.mono ?_; rintro e w3 ⟨rfl, rfl⟩
        have HF := fits_any w2 v2 _ _ ys ho2.arr (HB.out.ext he2) (by omega) (by omega) (by rw [val_limbs]; exact HN2.out)
        rw [val_limbs] at HF
        have hsubm : N - (val ys * (N / val ys) + 0) = N % val ys := by
          have := Nat.div_add_mod N (val ys); omega
        have HSM := Lib.hid hsubm; clear hsubm
        have hprod : (limbs (val ys * (N / val ys) + 0)).length ≤ ys.length + 1 := length_limbs_mul hok' hN1 (by omega)
        obtain ⟨q, hq⟩ : ∃ q, N / val ys = q := ⟨_, rfl⟩
        rw [hq] at HF hN1 HS HSM hprod
        clear hq
        go_wp2_with fail
        refine HF.mono ?_
        rintro e w3 ⟨rfl, hx3⟩
        have he3 := he2.trans hx3
        have hbk3 := HBK.out.ext ((he1.trans hx2).trans hx3)
        have hst := hbk3.cell m
        have hfz := hbk3.frozen m
        rw [get_cells _ _ (by simp; omega)] at hst
        simp only [d32] at hst
        have HB3 := Lib.hid hbk3; clear hbk3
        go_wp2_with fail
        have hgw1 : w.heap.size < w1.heap.size := by have := he1.size; have := HBK.out.lt; omega
        have hov := (ho2.ext hx3).far (p := ⟨w.heap.size, m, none⟩) hgw1 (d32 q)
        have he4 : Ext w (w3.setCell ⟨w.heap.size, m, none⟩ (d32 q)) := he3.setCell (Nat.le_refl _) _
        have hbk4 := HB3.out.set_ m (d32 q)
        rw [set_cells, set_back] at hbk4
        have HSM2 := rsmall_any (w3.setCell ⟨w.heap.size, m, none⟩ (d32 q)) _ ys q 0 (HB.out.ext he4) (by omega) hN1 (by omega)
        rw [show ((0 : Nat) : Int) = 0 from rfl] at HSM2
        have HB4 := Lib.hid hbk4; clear hbk4
        refine HSM2.mono ?_
        rintro e w5 ⟨v5, rfl, ho5, hx5⟩
        go_wp2_with fail
        have HLS := rless_any w5 v2 v5 _ _ (hov.ext hx5).arr ho5.arr (by omega) (by omega)
        rw [val_limbs, val_limbs, HSM.out] at HLS
        refine HLS.mono ?_
        rintro e w6 ⟨v6, rfl, ho6, hx6⟩
        go_wp2_with fail
        go_roundw
        case rel => exact ⟨m, N % val ys, by omega, HMOD.out, rfl, q :: qs, by have := HL.out; simp; omega, ok_cons hN1 hokq, HS.out, (HB4.out.ext hx5).ext hx6, ho6.arr, he4.trans (hx5.trans hx6)⟩
        case measure => simp [intOf]
end Big
end Go.Proofs.YtdijknnlldjgmaaDoor
