import Derived.Test.YtplmldkfgeiklaaGreatDoorM10
import Derived.Test.YtplmldkfgeiklaaGreatDoorM1
import Derived.Test.YtplmldkfgeiklaaGreatDoorM5
import Derived.Test.YtplmldkfgeiklaaGreatDoorM6
import Derived.Test.YtplmldkfgeiklaaGreatDoorM7
import Derived.Deep.LoopGhost
namespace Go.Proofs.YtplmldkfgeiklaaGreatDoor
namespace Big
open Go.RowKit

/-- What the long division holds with the digits below k still to come. -/
def DivAt (w0 wr : World) (rv : Value) (xs : List Nat) (b k r : Nat) : Prop :=
  ∃ qs : List Nat, k + qs.length = xs.length ∧ Ok qs ∧ val qs * b + r = val (xs.drop k) ∧
    Blk wr w0.heap.size 74 (cells (List.replicate k 0 ++ qs)) ∧ Arr wr rv (limbs r) ∧ Ext w0 wr

theorem rdivmod_any (w : World) (v u : Value) (xs ys : List Nat) (h : Arr w v xs) (h' : Arr w u ys) (hn : xs.length ≤ 134217728) (hn' : ys.length ≤ 134217728) (hy : 0 < val ys) :
    Calls Tryz.prog 139 #[v, u] w fun e w' => ∃ v' u', e = .returned (.tuple #[v', u', .bool true]) ∧ Own w.heap.size w' v' (limbs (val xs / val ys)) ∧ Arr w' u' (limbs (val xs % val ys)) ∧ Ext w w' := by
  have HA := Lib.hid h
  have HB := Lib.hid h'
  obtain ⟨hok, A, c, rfl, hc, hm, hcell⟩ := h.open
  obtain ⟨hok', A', c', rfl, hc', hm', hcell'⟩ := h'.open
  have HC := Lib.hid hcell
  have hl0 : 0 < ys.length := by
    rcases Nat.eq_zero_or_pos ys.length with h0 | h0
    · have := List.eq_nil_of_length_eq_zero h0; subst this; simp [val] at hy
    · exact h0
  have hlb : ((ys.length : Int) == 0) = false := by rw [beq_eq_false_iff_ne]; omega
  have hmk := run_make32 xs.length (by omega)
  clear h h' hcell hcell' hm hm' hc hc'
  go_enter Tryz.func139, Tryz.ntmps139
  go_wp2_with fail
  clear hmk
  go_loopw [8, 9] (fun rv i wr => ∃ k r : Nat, k ≤ xs.length ∧ r < val ys ∧ i = .int .i64 ((k : Int) - 1) ∧ DivAt w wr rv xs (val ys) k r) (fun _ i _ => (intOf i + 1).toNat)
  case atStart => exact ⟨xs.length, 0, Nat.le_refl _, hy, rfl, [], rfl, ok_nil, by simp [val], by simpa [zeros_cells] using Blk.new w 74 (zeros xs.length), Arr.none_ _, (Ext.refl w).alloc _⟩
  case round =>
    obtain ⟨k, r, hk, hr, rfl, qs, hl, hokq, hv, hblk, har, hext⟩ := hrel
    have HV := Lib.hid hv; clear hv
    have HBK := Lib.hid hblk; clear hblk
    have HL := Lib.hid hl; clear hl
    have HR := Lib.hid hr; clear hr
    have HY := Lib.hid hy; clear hy
    rcases Nat.eq_zero_or_pos k with h0 | h0
    · subst h0
      obtain ⟨hq1, hq2⟩ := quo_end HR.out (by simpa using HV.out)
      have hlen : qs.length = xs.length := by simpa using HL.out
      have hlast : Own w.heap.size wr (.slice (some ⟨w.heap.size, 0, none⟩) xs.length xs.length) qs := by
        have h3 := Own.block (B := w.heap.size) hokq (by simpa using HBK.out) (Nat.le_refl _) (by omega)
        rwa [hlen] at h3
      have HT := Lib.hid (rtrim_any _ _ _ hlast.arr (by omega))
      rw [hq1] at HT
      rw [hq2] at har
      clear hq1 hq2 hlast hlen
      go_wp2_with fail
      refine HT.out.mono ?_
      rintro e w' ⟨v', rfl, ho, hx⟩
      go_wp2_with fail
      go_ret3
      exact ⟨_, _, rfl, ho.mono hext.size, har.ext hx, hext.trans hx⟩
    · obtain ⟨m, rfl⟩ : ∃ m, k = m + 1 := ⟨k - 1, by omega⟩
      obtain ⟨b, o, rfl, hb, hcell⟩ := HC.out (by omega)
      have hx := (hext.cell hb).trans (hcell m (by omega))
      clear hcell
      have hxm := hok.get m
      have HS := Lib.hid (div_step (k := m) HV.out)
      obtain ⟨x, hxe⟩ : ∃ x, xs.getD m 0 = x := ⟨_, rfl⟩
      rw [hxe] at hx hxm HS
      clear hxe
      have hwr := hext.size
      have hrl := length_limbs_lt hok' (Nat.le_of_lt HR.out)
      have HLIM := Lib.hid (show [x].length + (limbs r).length ≤ 2147483648 by simp; omega)
      simp only [d32] at hx
      go_wp2_with (at_builtin; go_must (refine wpList_append32 rfl _ _ rfl rfl (Own.fresh1' _ _ x rfl hxm) rfl (har.ext ((Ext.refl _).alloc _)) HLIM.out (by simp) ?_; intro v1 w1 hown1 hgr hb1))
      have he1 : Ext wr w1 := ((Ext.refl wr).alloc _).more hb1
      have hval : val ([x] ++ limbs r) = x + 4294967296 * r := by simp [val, val_limbs]
      have HT := rtrim_any w1 v1 _ hown1.arr (by simp; omega)
      rw [hval] at HT
      have hN1 := div_lt HR.out hxm
      have hN2 := div_bound HR.out hxm
      have hNl := limbs_len_step hok' hN2
      have hmod := Nat.mod_lt (x + 4294967296 * r) HY.out
      clear hval hgr hown1
      obtain ⟨N, hN⟩ : ∃ N, x + 4294967296 * r = N := ⟨_, rfl⟩
      rw [hN] at HT HS hN1 hN2 hNl hmod
      clear hN
      have HMOD := Lib.hid hmod; clear hmod
      have HN2 := Lib.hid hN2; clear hN2
      refine HT.mono ?_
      rintro e w2 ⟨v2, rfl, ho2, hx2⟩
      have he2 := hext.trans (he1.trans hx2)
      have HCM := rcmp_any w2 v2 _ _ ys ho2.arr (HB.out.ext he2) (by omega) (by omega)
      rw [val_limbs] at HCM
      rcases Nat.lt_or_ge N (val ys) with hlt | hge
      · have hcm : ¬ 0 ≤ cmpI N (val ys) := by rw [cmpI_lt hlt]; omega
        have HZ := Lib.hid (Nat.div_eq_of_lt hlt)
        have HZ2 := Lib.hid (Nat.mod_eq_of_lt hlt)
        have HLT := Lib.hid hlt; clear hlt hN1 HT hNl
        have HCM := Lib.hid HCM
        generalize cmpI N (val ys) = cc at HCM hcm
        go_wp2_with fail
        refine HCM.out.mono ?_; rintro e w3 ⟨rfl, rfl⟩
        go_wp2_with fail
        go_roundw
        case rel =>
          refine ⟨m, N, by omega, HLT.out, rfl, 0 :: qs, by have := HL.out; simp; omega, ok_cons (by omega) hokq, ?_, ?_, ho2.arr, he2⟩
          · have := HS.out; rw [HZ.out, HZ2.out] at this; exact this
          · have h1 := HBK.out.ext (he1.trans hx2)
            rw [List.replicate_succ', List.append_assoc] at h1
            exact h1
        case measure => simp [intOf]
      · have hcm : 0 ≤ cmpI N (val ys) := by unfold cmpI; split <;> (try split) <;> omega
        have HGE := Lib.hid hge; clear hge
        have HCM := Lib.hid HCM
        generalize cmpI N (val ys) = cc at HCM hcm
        go_wp2_with fail
        refine HCM.out.mono ?_; rintro e w3 ⟨rfl, rfl⟩
        have HF := fits_any w2 v2 _ _ ys ho2.arr (HB.out.ext he2) (by omega) (by omega) (by rw [val_limbs]; exact HN2.out)
        rw [val_limbs] at HF
        have hsubm : N - (val ys * (N / val ys) + 0) = N % val ys := by
          have := Nat.div_add_mod N (val ys); omega
        have HSM := Lib.hid hsubm; clear hsubm
        have hprod : (limbs (val ys * (N / val ys) + 0)).length ≤ ys.length + 1 := length_limbs_mul hok' hN1 (by omega)
        obtain ⟨q, hq⟩ : ∃ q, N / val ys = q := ⟨_, rfl⟩
        rw [hq] at HF hN1 HS HSM hprod
        clear hq
        go_wp2_with fail
        refine HF.mono ?_
        rintro e w3 ⟨rfl, hx3⟩
        have he3 := he2.trans hx3
        have hbk3 := HBK.out.ext ((he1.trans hx2).trans hx3)
        have hst := hbk3.cell m
        have hfz := hbk3.frozen m
        rw [get_cells _ _ (by simp; omega)] at hst
        simp only [d32] at hst
        have HB3 := Lib.hid hbk3; clear hbk3
        go_wp2_with fail
        have hgw1 : w.heap.size < w1.heap.size := by have := he1.size; have := HBK.out.lt; omega
        have hov := (ho2.ext hx3).far (p := ⟨w.heap.size, m, none⟩) hgw1 (d32 q)
        have he4 : Ext w (w3.setCell ⟨w.heap.size, m, none⟩ (d32 q)) := he3.setCell (Nat.le_refl _) _
        have hbk4 := HB3.out.set_ m (d32 q)
        rw [set_cells, set_back] at hbk4
        have HSM2 := rsmall_any (w3.setCell ⟨w.heap.size, m, none⟩ (d32 q)) _ ys q 0 (HB.out.ext he4) (by omega) hN1 (by omega)
        rw [show ((0 : Nat) : Int) = 0 from rfl] at HSM2
        have HB4 := Lib.hid hbk4; clear hbk4
        refine HSM2.mono ?_
        rintro e w5 ⟨v5, rfl, ho5, hx5⟩
        go_wp2_with fail
        have HLS := rless_any w5 v2 v5 _ _ (hov.ext hx5).arr ho5.arr (by omega) (by omega)
        rw [val_limbs, val_limbs, HSM.out] at HLS
        refine HLS.mono ?_
        rintro e w6 ⟨v6, rfl, ho6, hx6⟩
        go_wp2_with fail
        go_roundw
        case rel => exact ⟨m, N % val ys, by omega, HMOD.out, rfl, q :: qs, by have := HL.out; simp; omega, ok_cons hN1 hokq, HS.out, (HB4.out.ext hx5).ext hx6, ho6.arr, he4.trans (hx5.trans hx6)⟩
        case measure => simp [intOf]
end Big
end Go.Proofs.YtplmldkfgeiklaaGreatDoor
/- Fractions in memory. -/
namespace Go.Proofs.YtplmldkfgeiklaaGreatDoor
namespace Big
open Go.RowKit
/-- v is the fraction p / q, in memory of the call's own. -/
def IsRat (B : Nat) (w : World) (v : Value) (p : Int) (q : Nat) : Prop := ∃ m d, v = .agg #[.bool (decide (p < 0)), m, d] ∧ Own B w m (limbs p.natAbs) ∧ Own B w d (limbs q)
/-- v is the fraction p / q. -/
def ArrRat (w : World) (v : Value) (p : Int) (q : Nat) : Prop := ∃ m d, v = .agg #[.bool (decide (p < 0)), m, d] ∧ Arr w m (limbs p.natAbs) ∧ Arr w d (limbs q)
section
variable {B B' : Nat} {w w' : World} {v : Value} {p : Int} {q : Nat}
theorem IsRat.ext (h : IsRat B w v p q) (hb : Ext w w') : IsRat B w' v p q := by
  obtain ⟨m, d, rfl, h1, h2⟩ := h
  exact ⟨m, d, rfl, h1.ext hb, h2.ext hb⟩
theorem IsRat.mono (h : IsRat B w v p q) (hB : B' ≤ B) : IsRat B' w v p q := by
  obtain ⟨m, d, rfl, h1, h2⟩ := h
  exact ⟨m, d, rfl, h1.mono hB, h2.mono hB⟩
theorem IsRat.far (h : IsRat B w v p q) {a : Addr} (ha : a.block < B) (u : Value) : IsRat B (w.setCell a u) v p q := by
  obtain ⟨m, d, rfl, h1, h2⟩ := h
  exact ⟨m, d, rfl, h1.far ha u, h2.far ha u⟩
theorem IsRat.arr (h : IsRat B w v p q) : ArrRat w v p q := by
  obtain ⟨m, d, rfl, h1, h2⟩ := h
  exact ⟨m, d, rfl, h1.arr, h2.arr⟩
theorem ArrRat.ext (h : ArrRat w v p q) (hb : Ext w w') : ArrRat w' v p q := by
  obtain ⟨m, d, rfl, h1, h2⟩ := h
  exact ⟨m, d, rfl, h1.ext hb, h2.ext hb⟩
theorem ArrRat.shape (h : ArrRat w v p q) : ∃ b n A c n' A' c', v = .agg #[.bool b, .slice A n c, .slice A' n' c'] := by
  obtain ⟨m, d, rfl, h1, h2⟩ := h
  obtain ⟨n, A, c, rfl⟩ := h1.shape
  obtain ⟨n', A', c', rfl⟩ := h2.shape
  exact ⟨_, n, A, c, n', A', c', rfl⟩
theorem IsRat.shape (h : IsRat B w v p q) : ∃ b n A c n' A' c', v = .agg #[.bool b, .slice A n c, .slice A' n' c'] := h.arr.shape
theorem agg3 {a b c a' b' c' : Value} (h : Value.agg #[a, b, c] = .agg #[a', b', c']) : a = a' ∧ b = b' ∧ c = c' := by
  injection h with h
  injection h with h
  injection h with h1 h
  injection h with h2 h
  injection h with h3 h
  exact ⟨h1, h2, h3⟩
theorem ArrRat.sign {bb : Bool} {m d : Value} (h : ArrRat w (.agg #[.bool bb, m, d]) p q) : bb = decide (p < 0) := by
  obtain ⟨m', d', he, h1, h2⟩ := h
  obtain ⟨e1, _, _⟩ := agg3 he
  injection e1
theorem ArrRat.num {bb : Bool} {m d : Value} (h : ArrRat w (.agg #[.bool bb, m, d]) p q) : Arr w m (limbs p.natAbs) := by
  obtain ⟨m', d', he, h1, h2⟩ := h
  obtain ⟨_, e2, _⟩ := agg3 he
  rw [e2]; exact h1
theorem ArrRat.den {bb : Bool} {m d : Value} (h : ArrRat w (.agg #[.bool bb, m, d]) p q) : Arr w d (limbs q) := by
  obtain ⟨m', d', he, h1, h2⟩ := h
  obtain ⟨_, _, e3⟩ := agg3 he
  rw [e3]; exact h2
theorem ArrRat.int {bb : Bool} {m d : Value} (h : ArrRat w (.agg #[.bool bb, m, d]) p q) : ArrInt w (.agg #[.bool bb, m]) p := ⟨m, by rw [h.sign], h.num⟩
theorem IsRat.mk {bb : Bool} {m d : Value} (h : IsInt B w (.agg #[.bool bb, m]) p) (h' : Own B w d (limbs q)) : IsRat B w (.agg #[.bool bb, m, d]) p q := ⟨m, d, by rw [h.sign], h.mag, h'⟩
end
/-- The numerator and the denominator of z / d in lowest terms. -/
def lowN (z : Int) (d : Nat) : Int := sgn (decide (z < 0)) (z.natAbs / Nat.gcd z.natAbs d)
def lowD (z : Int) (d : Nat) : Nat := d / Nat.gcd z.natAbs d
theorem three_set {w : World} {g : Nat} {t : TypeId} {a b c : Value} (h : Blk w g t #[a, b, c]) (a' b' c' : Value) :
    (w.setCell ⟨g, 0, none⟩ a').cell? ⟨g, 0, none⟩ = some a' ∧ ((w.setCell ⟨g, 0, none⟩ a').setCell ⟨g, 1, none⟩ b').cell? ⟨g, 1, none⟩ = some b' ∧ (((w.setCell ⟨g, 0, none⟩ a').setCell ⟨g, 1, none⟩ b').setCell ⟨g, 2, none⟩ c').cell? ⟨g, 2, none⟩ = some c' :=
  ⟨(h.set_ 0 a').cell 0, ((h.set_ 0 a').set_ 1 b').cell 1, (((h.set_ 0 a').set_ 1 b').set_ 2 c').cell 2⟩
theorem IsRat.put {w w1 w' : World} {g : Nat} {bi : Bool} {m d : Value} {p : Int} {q : Nat} (hi : IsRat w1.heap.size w' (.agg #[.bool bi, m, d]) p q) (hg : g < w1.heap.size) (hw : w.heap.size ≤ w1.heap.size) :
    IsRat w.heap.size (((w'.setCell ⟨g, 0, none⟩ (.bool bi)).setCell ⟨g, 1, none⟩ m).setCell ⟨g, 2, none⟩ d) (.agg #[.bool bi, m, d]) p q := (((hi.far hg _).far hg _).far hg _).mono hw
theorem IsRat.zero (B : Nat) (w : World) : IsRat B w (.agg #[.bool false, .slice none 0 0, .slice none 0 0]) 0 0 := ⟨_, _, rfl, Own.none_ _ _, Own.none_ _ _⟩
end Big
end Go.Proofs.YtplmldkfgeiklaaGreatDoor
/- The reference's Gcd, Div, Lowest, Make, of. -/
namespace Go.Proofs.YtplmldkfgeiklaaGreatDoor
namespace Big
open Go.RowKit
theorem limbs_pos_len {g : Nat} (h : 0 < g) : 0 < (limbs g).length := List.length_pos_iff.2 (fun e => by rw [limbs_eq_nil] at e; omega)
theorem rgcd_any (w : World) (v u : Value) (X Y : Nat) (h : Arr w v (limbs X)) (h' : Arr w u (limbs Y)) (hn : (limbs X).length ≤ 134217728) (hn' : (limbs Y).length ≤ 134217728) :
    Calls Tryz.prog 94 #[v, u] w fun e w' => ∃ v', e = .returned v' ∧ Arr w' v' (limbs (Nat.gcd X Y)) ∧ Ext w w' := by
  have HA := Lib.hid h
  have HB := Lib.hid h'
  obtain ⟨n1, A1, c1, rfl⟩ := h.shape
  obtain ⟨n2, A2, c2, rfl⟩ := h'.shape
  clear h h'
  go_enter Tryz.func94, Tryz.ntmps94
  go_wp2_with fail
  go_loopg [0, 1] Y (fun gh s0 s1 wr => ∃ (g x : Nat) (na : Nat) (Aa : Option Addr) (ca nb : Nat) (Ab : Option Addr) (cb : Nat), gh = g ∧ s0 = .slice Aa na ca ∧ s1 = .slice Ab nb cb ∧ Arr wr s0 (limbs x) ∧ Arr wr s1 (limbs g) ∧ Nat.gcd x g = Nat.gcd X Y ∧ (limbs x).length ≤ 134217728 ∧ (limbs g).length ≤ 134217728 ∧ Ext w wr)
  case atStart => exact ⟨Y, X, n1, A1, c1, n2, A2, c2, rfl, rfl, rfl, HA.out, HB.out, rfl, hn, hn', Ext.refl _⟩
  case round =>
    obtain ⟨g, x, na, Aa, ca, nb, Ab, cb, hgg, rfl, rfl, hoa, hob, hg, hlx, hlg, hext⟩ := hrel
    have HGG := Lib.hid hgg
    have HG := Lib.hid hg
    have HXT := Lib.hid hext
    have HOB := Lib.hid hob
    have hnb := hob.len
    clear hgg hg hext HA HB
    rcases Nat.eq_zero_or_pos g with h0 | h0
    · subst h0
      rw [limbs_zero, List.length_nil] at hnb
      subst hnb
      have HV : Hid (Arr wr (.slice Aa na ca) (limbs (Nat.gcd X Y))) := Lib.hid (by
        have h1 := HG.out
        rw [Nat.gcd_zero_right] at h1
        rw [← h1]
        exact hoa)
      clear hoa hob
      go_wp2_with fail
      go_ret
      exact ⟨_, rfl, HV.out, HXT.out⟩
    · have hl1 : 0 < nb := by rw [hnb]; exact limbs_pos_len h0
      have HD := Lib.hid (rdivmod_any wr _ _ _ _ hoa hob hlx hlg (by rw [val_limbs]; exact h0))
      rw [val_limbs, val_limbs] at HD
      have hmod := Nat.mod_lt x h0
      have hlm := Nat.le_trans (limbs_mono (Nat.le_of_lt hmod)) hlg
      have HG2 := Lib.hid (show Nat.gcd g (x % g) = Nat.gcd X Y by rw [← gcd_step, HG.out])
      have hb0 : (0 : Int) < (nb : Int) := by omega
      clear hoa hob hnb
      go_wp2_with fail
      refine HD.out.mono ?_
      rintro e w3 ⟨v3, u3, rfl, hq3, hr3, hx3⟩
      have HB3 := Lib.hid (HOB.out.ext hx3)
      have HR3 := Lib.hid hr3
      have HX3 := Lib.hid (HXT.out.trans hx3)
      obtain ⟨n3, A3, c3, rfl⟩ := hq3.arr.2.shape
      obtain ⟨n4, A4, c4, rfl⟩ := hr3.2.shape
      clear hq3 hr3 hx3
      go_wp2_with fail
      go_roundg (x % g)
      case rel => exact ⟨x % g, g, nb, Ab, cb, n4, A4, c4, rfl, rfl, rfl, HB3.out, HR3.out, HG2.out, hlg, hlm, HX3.out⟩
      case measure => rw [HGG.out]; exact hmod
theorem rdiv_any (w : World) (v u : Value) (X Y : Nat) (h : Arr w v (limbs X)) (h' : Arr w u (limbs Y)) (hn : (limbs X).length ≤ 134217728) (hn' : (limbs Y).length ≤ 134217728) (hy : 0 < Y) :
    Calls Tryz.prog 137 #[v, u] w fun e w' => ∃ v', e = .returned v' ∧ Own w.heap.size w' v' (limbs (X / Y)) ∧ Ext w w' := by
  have HD := Lib.hid (rdivmod_any w v u _ _ h h' hn hn' (by rw [val_limbs]; exact hy))
  rw [val_limbs, val_limbs] at HD
  clear h h'
  go_enter Tryz.func137, Tryz.ntmps137
  go_wp2_with fail
  refine HD.out.mono ?_
  rintro e w3 ⟨v3, u3, rfl, hq3, hr3, hx3⟩
  have HQ3 := Lib.hid hq3
  have HX3 := Lib.hid hx3
  obtain ⟨n3, A3, c3, rfl⟩ := hq3.arr.2.shape
  obtain ⟨n4, A4, c4, rfl⟩ := hr3.2.shape
  clear hq3 hr3 hx3
  go_wp2_with fail
  go_ret
  exact ⟨_, rfl, HQ3.out, HX3.out⟩
theorem rlowest_zero (w : World) (v : Value) (A : Option Addr) (c : Nat) :
    Calls Tryz.prog 88 #[v, .slice A 0 c] w fun e w' => e = .returned (.tuple #[.slice none 0 0, .slice none 0 0, .bool false]) ∧ w = w' := by
  go_enter Tryz.func88, Tryz.ntmps88
  go_wp2_with fail
  go_ret3
  exact ⟨rfl, rfl⟩
/-- What the reference's Lowest promises. -/
def RLowPost (X Y : Nat) (w : World) (e : Ending) (w' : World) : Prop :=
  ∃ v' u', e = .returned (.tuple #[v', u', .bool true]) ∧ Own w.heap.size w' v' (limbs (X / Nat.gcd X Y)) ∧ Own w.heap.size w' u' (limbs (Y / Nat.gcd X Y)) ∧ Ext w w'
theorem rlowest_any (w : World) (v u : Value) (X Y : Nat) (h : Arr w v (limbs X)) (h' : Arr w u (limbs Y)) (hn : (limbs X).length ≤ 134217728) (hn' : (limbs Y).length ≤ 134217728) (hy : 0 < Y) :
    Calls Tryz.prog 88 #[v, u] w (RLowPost X Y w) := by
  have HG := Lib.hid (rgcd_any w v u X Y h h' hn hn')
  have hg0 : 0 < Nat.gcd X Y := Nat.gcd_pos_of_pos_right _ hy
  have hgl : (limbs (Nat.gcd X Y)).length ≤ 134217728 := Nat.le_trans (limbs_mono (Nat.gcd_le_right _ hy)) hn'
  have HD1 := Lib.hid (fun W z hx a => rdiv_any W v z X (Nat.gcd X Y) (h.ext hx) a hn hgl hg0)
  have HD2 := Lib.hid (fun W z hx a => rdiv_any W u z Y (Nat.gcd X Y) (h'.ext hx) a hn' hgl hg0)
  obtain ⟨nv, Av, cv, rfl⟩ := h.shape
  obtain ⟨nu, Au, cu, rfl⟩ := h'.shape
  have hl := h'.len
  have hl0 := limbs_pos_len hy
  rw [← hl] at hl0
  have hlb : ((nu : Int) == 0) = false := by rw [beq_eq_false_iff_ne]; omega
  clear h h' hn hn' hgl hl hg0 hl0
  go_enter Tryz.func88, Tryz.ntmps88
  go_wp2_with fail
  refine HG.out.mono ?_
  rintro e w1 ⟨v1, rfl, ho1, hx1⟩
  have HX1 := Lib.hid hx1
  have HO1 := Lib.hid ho1
  obtain ⟨n1, A1, c1, rfl⟩ := ho1.2.shape
  clear ho1 hx1
  go_wp2_with fail
  refine (HD1.out _ _ HX1.out HO1.out).mono ?_
  rintro e w2 ⟨v2, rfl, ho2, hx2⟩
  have HX2 := Lib.hid (HX1.out.trans hx2)
  have HO2 := Lib.hid (ho2.mono HX1.out.size)
  have HO1' := Lib.hid (HO1.out.ext hx2)
  obtain ⟨n2, A2, c2, rfl⟩ := ho2.shape
  clear ho2 hx2
  go_wp2_with fail
  refine (HD2.out _ _ HX2.out HO1'.out).mono ?_
  rintro e w3 ⟨v3, rfl, ho3, hx3⟩
  have HX3 := Lib.hid (HX2.out.trans hx3)
  have HO3 := Lib.hid (ho3.mono HX2.out.size)
  have HO2' := Lib.hid (HO2.out.ext hx3)
  obtain ⟨n3, A3, c3, rfl⟩ := ho3.shape
  clear ho3 hx3
  go_wp2_with fail
  go_ret3
  exact ⟨_, _, rfl, HO2'.out, HO3.out, HX3.out⟩

/-- The numerator of x / y in lowest terms. -/
def makeN (x y : Int) : Int := sgn (decide (x < 0) != decide (y < 0)) (x.natAbs / Nat.gcd x.natAbs y.natAbs)
def makeD (x y : Int) : Nat := y.natAbs / Nat.gcd x.natAbs y.natAbs
set_option maxRecDepth 100000 in
theorem rmake_zero (w : World) (v u : Value) (x : Int) (h : ArrInt w v x) (h' : ArrInt w u 0) :
    Calls Tryz.prog 31 #[v, u] w fun e w' => ∃ v', e = .returned (.tuple #[v', .int .i64 2]) ∧ IsRat w.heap.size w' v' 0 0 ∧ Ext w w' := by
  obtain ⟨b, n, A, c, rfl⟩ := h.shape
  obtain ⟨b', n', A', c', rfl⟩ := h'.shape
  have hl := h'.mag.len
  rw [show (0 : Int).natAbs = 0 from rfl, limbs_zero, List.length_nil] at hl
  subst hl
  clear h h'
  go_enter Tryz.func31, Tryz.ntmps31
  go_wp2_with fail
  refine (rlowest_zero _ _ _ _).mono ?_
  rintro e w1 ⟨rfl, rfl⟩
  go_wp2_with fail
  refine bodyPost_ret (v := .tuple #[.agg #[.bool false, .slice none 0 0, .slice none 0 0], .int .i64 2]) (by simp [results, Tryz.results31, go_sem]) rfl ?_
  exact ⟨_, rfl, IsRat.zero _ _, (((Ext.refl w).alloc _).alloc _).alloc _⟩
set_option maxHeartbeats 1000000 in
set_option maxRecDepth 100000 in
theorem rmake_any (w : World) (v u : Value) (x y : Int) (h : ArrInt w v x) (h' : ArrInt w u y) (hn : (limbs x.natAbs).length ≤ 134217728) (hn' : (limbs y.natAbs).length ≤ 134217728) (hy : y ≠ 0) :
    Calls Tryz.prog 31 #[v, u] w fun e w' => ∃ v', e = .returned (.tuple #[v', .int .i64 0]) ∧ IsRat w.heap.size w' v' (makeN x y) (makeD x y) ∧ Ext w w' := by
  obtain ⟨b, n, A, c, rfl⟩ := h.shape
  obtain ⟨b', n', A', c', rfl⟩ := h'.shape
  have HL := Lib.hid (fun W hx => rlowest_any W (.slice A n c) (.slice A' n' c') x.natAbs y.natAbs (h.mag.ext hx) (h'.mag.ext hx) hn hn' (by omega))
  have HI := Lib.hid (fun W m a => rnat_any W (b != b') m (limbs (x.natAbs / Nat.gcd x.natAbs y.natAbs)) a (Nat.le_trans (limbs_mono (Nat.div_le_self _ _)) (by omega)))
  rw [val_limbs] at HI
  have HS := Lib.hid h.sign
  have HS' := Lib.hid h'.sign
  clear h h' hn hn'
  go_enter Tryz.func31, Tryz.ntmps31
  go_wp2_with fail
  have hb0 := ((Blk.new w 24 #[Value.bool b, Value.slice A n c]).alloc (.cells #[Value.bool b', Value.slice A' n' c'] 24)).alloc (.cells #[Value.bool false, Value.slice none 0 0, Value.slice none 0 0] 26)
  have hb1 := (Blk.new (w.alloc (.cells #[Value.bool b, Value.slice A n c] 24)) 24 #[Value.bool b', Value.slice A' n' c']).alloc (.cells #[Value.bool false, Value.slice none 0 0, Value.slice none 0 0] 26)
  have hb2 := Blk.new ((w.alloc (.cells #[Value.bool b, Value.slice A n c] 24)).alloc (.cells #[Value.bool b', Value.slice A' n' c'] 24)) 26 #[Value.bool false, Value.slice none 0 0, Value.slice none 0 0]
  have hxo := (((Ext.refl w).alloc (.cells #[Value.bool b, Value.slice A n c] 24)).alloc (.cells #[Value.bool b', Value.slice A' n' c'] 24)).alloc (.cells #[Value.bool false, Value.slice none 0 0, Value.slice none 0 0] 26)
  have hszo : w.heap.size + 1 + 1 < (((w.alloc (.cells #[Value.bool b, Value.slice A n c] 24)).alloc (.cells #[Value.bool b', Value.slice A' n' c'] 24)).alloc (.cells #[Value.bool false, Value.slice none 0 0, Value.slice none 0 0] 26)).heap.size := by simp
  simp only [World.size_alloc] at hb1 hb2
  generalize ((w.alloc (.cells #[Value.bool b, Value.slice A n c] 24)).alloc (.cells #[Value.bool b', Value.slice A' n' c'] 24)).alloc (.cells #[Value.bool false, Value.slice none 0 0, Value.slice none 0 0] 26) = wo at *
  refine (HL.out _ hxo).mono ?_
  rintro e w1 ⟨v1, u1, rfl, ho1, hr1, hx1⟩
  have hk0 := hb0.ext hx1
  have hk1 := hb1.ext hx1
  have hk2 := hb2.ext hx1
  have HO1 := Lib.hid ho1
  have HR1 := Lib.hid hr1
  obtain ⟨n1, A1, c1, rfl⟩ := ho1.shape
  obtain ⟨n2, A2, c2, rfl⟩ := hr1.shape
  obtain ⟨h0, h1, _, _, _⟩ := hk0.two
  obtain ⟨h2, h3, _, _, _⟩ := hk1.two
  have HK1 := Lib.hid hk2
  have HX1 := Lib.hid (hxo.trans hx1)
  have HSZ := Lib.hid hx1.size
  clear hb0 hb1 hb2 hx1 ho1 hr1 hk0 hk1 hk2 hxo
  go_wp2_with fail
  refine (HI.out _ _ HO1.out.arr).mono ?_
  rintro e w2 ⟨v2, rfl, hi2, hx2⟩
  have HI2 := Lib.hid hi2
  have HR2 := Lib.hid (HR1.out.ext hx2)
  have hk1 := HK1.out.ext hx2
  obtain ⟨b3, n3, A3, c3, rfl⟩ := hi2.shape
  obtain ⟨k0, k1, k2, f0, f1, f2, hgz⟩ := hk1.three
  have HX2 := Lib.hid (HX1.out.trans hx2)
  have HK2 := Lib.hid hk1
  clear hi2 hx2 hk1
  go_wp2_with fail
  obtain ⟨hr0, hr1, hr2⟩ := three_set HK2.out (.bool b3) (.slice A3 n3 c3) (.slice A2 n2 c2)
  refine bodyPost_ret (v := .tuple #[.agg #[.bool b3, .slice A3 n3 c3, .slice A2 n2 c2], .int .i64 0]) (by simp [results, Tryz.results31, go_sem, hr0, hr1, hr2]) rfl ?_
  have hfin : IsRat wo.heap.size w2 (.agg #[.bool b3, .slice A3 n3 c3, .slice A2 n2 c2]) (makeN x y) (makeD x y) := IsRat.mk (by
    have h1 := HI2.out.mono HSZ.out
    rw [HS.out, HS'.out] at h1
    exact h1) HR2.out
  exact ⟨_, rfl, hfin.put hszo (by omega), ((HX2.out.setCell (by show _ ≤ w.heap.size + 1 + 1; omega) _).setCell (by show _ ≤ w.heap.size + 1 + 1; omega) _).setCell (by show _ ≤ w.heap.size + 1 + 1; omega) _⟩

set_option maxHeartbeats 1000000 in
set_option maxRecDepth 100000 in
theorem rof7_any (w : World) (v u : Value) (x y : Int) (h : ArrInt w v x) (h' : ArrInt w u y) (hn : (limbs x.natAbs).length ≤ 134217728) (hn' : (limbs y.natAbs).length ≤ 134217728) (hy : y ≠ 0) :
    Calls Tryz.prog 56 #[v, u] w fun e w' => ∃ v', e = .returned v' ∧ IsRat w.heap.size w' v' (makeN x y) (makeD x y) ∧ Ext w w' := by
  have HA := Lib.hid h
  have HB := Lib.hid h'
  obtain ⟨b, n, A, c, rfl⟩ := h.shape
  obtain ⟨b', n', A', c', rfl⟩ := h'.shape
  have HM := Lib.hid (fun W hx => rmake_any W _ _ x y (h.ext hx) (h'.ext hx) hn hn' hy)
  clear h h' hn hn'
  go_enter Tryz.func56, Tryz.ntmps56
  go_wp2_with fail
  have hb2 := Blk.new ((w.alloc (.cells #[Value.bool b, Value.slice A n c] 24)).alloc (.cells #[Value.bool b', Value.slice A' n' c'] 24)) 26 #[Value.bool false, Value.slice none 0 0, Value.slice none 0 0]
  have hxo := (((Ext.refl w).alloc (.cells #[Value.bool b, Value.slice A n c] 24)).alloc (.cells #[Value.bool b', Value.slice A' n' c'] 24)).alloc (.cells #[Value.bool false, Value.slice none 0 0, Value.slice none 0 0] 26)
  simp only [World.size_alloc] at hb2
  generalize ((w.alloc (.cells #[Value.bool b, Value.slice A n c] 24)).alloc (.cells #[Value.bool b', Value.slice A' n' c'] 24)).alloc (.cells #[Value.bool false, Value.slice none 0 0, Value.slice none 0 0] 26) = wo at *
  refine (HM.out _ hxo).mono ?_
  rintro e w1 ⟨v1, rfl, ho1, hx1⟩
  have HO1 := Lib.hid ho1
  obtain ⟨b1, n1, A1, c1, n2, A2, c2, rfl⟩ := ho1.shape
  have hk2 := hb2.ext hx1
  have HK := Lib.hid hk2
  have HX1 := Lib.hid (hxo.trans hx1)
  have HSZ := Lib.hid hx1.size
  have HS0 := Lib.hid hb2.lt
  obtain ⟨k0, k1, k2, f0, f1, f2, hgz⟩ := hk2.three
  clear ho1 hx1 hk2 hb2 hxo
  go_wp2_with fail
  obtain ⟨hr0, hr1, hr2⟩ := three_set HK.out (.bool b1) (.slice A1 n1 c1) (.slice A2 n2 c2)
  obtain ⟨hs0, hs1, hs2, _⟩ := ((((HK.out.set_ 0 (.bool b1)).set_ 1 (.slice A1 n1 c1)).set_ 2 (.slice A2 n2 c2)).alloc (.cells #[.bool b1, .slice A1 n1 c1, .slice A2 n2 c2] 26)).three
  refine bodyPost_ret (v := .agg #[.bool b1, .slice A1 n1 c1, .slice A2 n2 c2]) (by simp [results, Tryz.results56, go_sem, hs0, hs1, hs2]) rfl ?_
  have hfin := (HO1.out.put (w := w) HS0.out (by have := HS0.out; omega)).ext ((Ext.refl _).alloc (.cells #[.bool b1, .slice A1 n1 c1, .slice A2 n2 c2] 26))
  exact ⟨_, rfl, hfin, (((HX1.out.setCell (by show _ ≤ w.heap.size + 1 + 1; omega) _).setCell (by show _ ≤ w.heap.size + 1 + 1; omega) _).setCell (by show _ ≤ w.heap.size + 1 + 1; omega) _).alloc _⟩
end Big
end Go.Proofs.YtplmldkfgeiklaaGreatDoor
namespace Go.Proofs.YtplmldkfgeiklaaGreatDoor
namespace Big
open Go.RowKit

theorem rsame_any (w : World) (v u : Value) (xs ys : List Nat) (h : Arr w v xs) (h' : Arr w u ys) (hn : xs.length ≤ 1073741824) (hn' : ys.length ≤ 1073741824) :
    Calls Tryz.prog 69 #[v, u] w fun e w' => e = .returned (.bool (decide (xs.length = ys.length) && decide (val xs = val ys))) ∧ w = w' := by
  have HC := Lib.hid (rcmp_any w v u xs ys h h' hn hn')
  obtain ⟨hok, A, c, rfl, hc, hm, hcell⟩ := h.open
  obtain ⟨hok', A', c', rfl, hc', hm', hcell'⟩ := h'.open
  clear h h' hcell hcell' hm hm'
  by_cases hl : xs.length = ys.length
  · have hb : ((xs.length : Int) == (ys.length : Int)) = true := by rw [hl]; simp
    have HL := Lib.hid hl; clear hl
    by_cases hv : val xs = val ys
    · have hcm : (cmpI (val xs) (val ys) == 0) = true := by rw [cmpI_eq hv]; rfl
      have HV := Lib.hid hv; clear hv
      generalize cmpI (val xs) (val ys) = cc at HC hcm
      go_enter Tryz.func69, Tryz.ntmps69
      go_wp2_with fail
      refine HC.out.mono ?_; rintro e w' ⟨rfl, rfl⟩
      go_wp2_with fail
      go_ret
      exact ⟨by rw [decide_eq_true HL.out, decide_eq_true HV.out]; rfl, rfl⟩
    · have hcm : (cmpI (val xs) (val ys) == 0) = false := by
        rw [beq_eq_false_iff_ne]; unfold cmpI; split <;> (try split) <;> omega
      have HV := Lib.hid hv; clear hv
      generalize cmpI (val xs) (val ys) = cc at HC hcm
      go_enter Tryz.func69, Tryz.ntmps69
      go_wp2_with fail
      refine HC.out.mono ?_; rintro e w' ⟨rfl, rfl⟩
      go_wp2_with fail
      go_ret
      exact ⟨by rw [decide_eq_true HL.out, decide_eq_false HV.out]; rfl, rfl⟩
  · have hb : ((xs.length : Int) == (ys.length : Int)) = false := by rw [beq_eq_false_iff_ne]; omega
    have HL := Lib.hid hl; clear hl HC
    go_enter Tryz.func69, Tryz.ntmps69
    go_wp2_with fail
    go_ret
    exact ⟨by rw [decide_eq_false HL.out]; rfl, rfl⟩

theorem mint_big (w : World) (neg : Bool) (A : Option Addr) (len c : Nat) (n : Int) (h : n < len) :
    Calls Tryz.prog 29 #[.agg #[.bool neg, .slice A len c], .int .i64 n] w fun e w' => ∃ v', e = .returned (.tuple #[v', .bool false]) ∧ Ext w w' := by
  go_enter Tryz.func29, Tryz.ntmps29
  go_wp2_with fail
  refine bodyPost_ret (v := .tuple #[.agg #[.bool false, .slice none 0 0], .bool false]) (by simp [results, Tryz.results29, go_sem]) rfl ?_
  exact ⟨_, rfl, ((Ext.refl w).alloc _).alloc _⟩

theorem mint_any (w : World) (neg : Bool) (v : Value) (xs : List Nat) (n : Int) (h : Arr w v xs) (hn : xs.length ≤ 1073741824) (hle : (xs.length : Int) ≤ n) :
    Calls Tryz.prog 29 #[.agg #[.bool neg, v], .int .i64 n] w fun e w' => ∃ v', e = .returned (.tuple #[v', .bool true]) ∧ IsInt w.heap.size w' v' (sgn neg (val xs)) ∧ Ext w w' := by
  have HA := Lib.hid h
  obtain ⟨hok, A, c, rfl, hc, hm, hcell⟩ := h.open
  clear h hcell hm hc
  go_enter Tryz.func29, Tryz.ntmps29
  go_wp2_with fail
  have hx0 := ((Ext.refl w).alloc (.cells #[Value.bool neg, Value.slice A xs.length c] 24)).alloc (.cells #[Value.bool false, Value.slice none 0 0] 24)
  refine (rnat_any _ neg _ xs (HA.out.ext hx0) hn).mono ?_
  rintro e w1 ⟨v1, rfl, hi, hx⟩
  have HI := Lib.hid hi
  obtain ⟨m, hv, ho⟩ := hi
  obtain ⟨A1, c1, hv1, _⟩ := ho.2
  rw [List.length_map] at hv1
  subst hv1
  subst hv
  clear ho
  generalize decide (sgn neg (val xs) < 0) = bb at HI
  generalize (limbs (sgn neg (val xs)).natAbs).length = ln at HI
  have hbk := (Blk.new (w.alloc (.cells #[Value.bool neg, Value.slice A xs.length c] 24)) 24 #[Value.bool false, Value.slice none 0 0]).ext hx
  simp only [World.size_alloc] at hbk
  have hc0 : w1.cell? ⟨w.heap.size + 1, 0, none⟩ = some (.bool false) := hbk.cell 0
  have hc1 : w1.cell? ⟨w.heap.size + 1, 1, none⟩ = some (.slice none 0 0) := hbk.cell 1
  have hf0 := hbk.frozen 0
  have hf1 := hbk.frozen 1
  have hz := hbk.lt
  have HX := Lib.hid (hx0.trans hx)
  have HB := Lib.hid hbk
  clear hx hbk hx0
  go_wp2_with fail
  obtain ⟨hr0, hr1⟩ := two_set' HB.out (.bool bb) (.slice A1 ln c1)
  refine bodyPost_ret (v := .tuple #[.agg #[.bool bb, .slice A1 ln c1], .bool true]) (by simp [results, Tryz.results29, go_sem, hr0, hr1]) rfl ?_
  exact ⟨_, rfl, IsInt.stored HB.out HI.out (by simp) HX.out (by omega)⟩
end Big
end Go.Proofs.YtplmldkfgeiklaaGreatDoor
