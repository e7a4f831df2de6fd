import Derived.Test.YtdijknnlldjgmaaDoorW4
import Derived.Test.YtdijknnlldjgmaaDoorW11
import Derived.Test.YtdijknnlldjgmaaDoorDec
namespace Go.Proofs.YtdijknnlldjgmaaDoor
namespace Big
open Go.RowKit

theorem low_split_len {l a b : List UInt8} {n : Nat} (h : l = a ++ b) (hn : l.length ≤ n) : a.length ≤ n := by
  rw [h, List.length_append] at hn; omega
theorem d8_ofNat (r : Nat) : (((48 + (r : Int) % 10 % 256) % 256 : Int)) = ((UInt8.ofNat (48 + r % 10)).toNat : Int) := by
  rw [UInt8.toNat_ofNat']; omega

/-- What decimal.Digits holds in a group, with k digits of it taken. -/
def DigAt (w0 wr : World) (out : Value) (N q k r : Nat) : Prop :=
  ∃ bs : List UInt8, Own8 w0.heap.size wr out bs ∧ low N = bs ++ low (q * 10 ^ (9 - k) + r) ∧ r < 10 ^ (9 - k) ∧ Ext w0 wr

theorem DigAt.step {w0 wr' : World} {out' : Value} {N q k r : Nat} {bs : List UInt8} (hl : low N = bs ++ low (q * 10 ^ (9 - k) + r)) (hr : r < 10 ^ (9 - k)) (hk : k < 9) (h0 : q ≠ 0 ∨ r ≠ 0)
    (ho : Own8 w0.heap.size wr' out' (bs ++ [UInt8.ofNat (48 + r % 10)])) (he : Ext w0 wr') : DigAt w0 wr' out' N q (k + 1) (r / 10) := by
  obtain ⟨h1, h2⟩ := low_group q r k hk hr h0
  exact ⟨_, ho, by rw [hl, h1, List.append_assoc]; rfl, h2, he⟩
theorem DigAt.done {w0 wr : World} {out : Value} {N q k r : Nat} (h : DigAt w0 wr out N q k r) (hk : k = 9 ∨ q = 0 ∧ r = 0) : ∃ bs, Own8 w0.heap.size wr out bs ∧ low N = bs ++ low q ∧ Ext w0 wr := by
  obtain ⟨bs, h1, h2, h3, h4⟩ := h
  refine ⟨bs, h1, ?_, h4⟩
  rcases hk with rfl | ⟨rfl, rfl⟩
  · rw [h2, group_end q r h3]
  · rw [h2, Nat.zero_mul]

theorem digits_any (w : World) (v : Value) (xs : List Nat) (h : Arr w v xs) (hn : xs.length ≤ 67108864) :
    Calls Tryd.prog 13 #[v] w fun e w' => e = .returned (str (dec (val xs))) ∧ Ext w w' := by
  have HT := Lib.hid (trim_any w v xs h (by omega))
  have HLN := Lib.hid (Nat.le_trans (length_low_val h.ok) (show 10 * xs.length ≤ 1073741823 by omega))
  have HLL := Lib.hid (Nat.le_trans (length_limbs_val h.ok) (show xs.length ≤ 536870912 by omega))
  have HMONO := Lib.hid (fun m (hm : m ≤ val xs) => length_limbs_lt h.ok hm)
  have HN := Lib.hid hn
  clear h
  obtain ⟨N, hNe⟩ : ∃ N, val xs = N := ⟨_, rfl⟩
  rw [hNe] at HT HLN HLL HMONO ⊢
  clear hNe
  go_enter Tryd.func13, Tryd.ntmps13
  go_wp2_with fail
  refine HT.out.mono ?_
  rintro e w0 ⟨v0, rfl, ho, hx⟩
  go_wp2_with fail
  go_loopg [0, 3] N (fun g a out wr => ∃ bs, g ≤ N ∧ Arr wr a (limbs g) ∧ Own8 w.heap.size wr out bs ∧ low N = bs ++ low g ∧ Ext w wr)
  case atStart => exact ⟨[], Nat.le_refl _, ho.arr, Own8.none_ _ _, rfl, hx⟩
  case round =>
    obtain ⟨bs, hg, har, hown, hlow, hext⟩ := hrel
    have HLOW := Lib.hid hlow; clear hlow
    have HAR := Lib.hid har
    clear ho hx
    obtain ⟨_, A, c, rfl, hc, hm, _⟩ := har.open
    have HM := Lib.hid hm; clear hm
    rcases Nat.eq_zero_or_pos gk with h0 | h0
    · subst h0
      clear hc har
      simp only [limbs_zero, List.length_nil, low_zero, List.append_nil] at HLOW ⊢
      have HOWN := Lib.hid hown
      obtain ⟨A', c', rfl, hc', hm', _⟩ := hown.arr.open
      have HM' := Lib.hid hm'; clear hm'
      rcases Nat.eq_zero_or_pos bs.length with hb | hb
      · have hb0 := List.eq_nil_of_length_eq_zero hb
        subst hb0
        have HD := Lib.hid (show dec N = [48] by rw [low_nil HLOW.out]; rfl)
        go_wp2_with fail
        go_ret
        exact ⟨congrArg (fun l => Ending.returned (str l)) HD.out.symm, hext⟩
      · have hbb : ((bs.length : Int) == 0) = false := by rw [beq_eq_false_iff_ne]; omega
        have hbn : bs ≠ [] := by rintro rfl; simp at hb
        have HD := Lib.hid (dec_of_low HLOW.out hbn)
        have HLB : bs.length ≤ 1073741824 := by have := HLN.out; rw [HLOW.out] at this; omega
        have HR := Lib.hid (reverse_any wr _ bs w.heap.size HOWN.out HLB)
        clear hbn
        go_wp2_with fail
        refine HR.out.mono ?_
        rintro e w2 ⟨rfl, ho2, hb2⟩
        have hcv := run_string8 ho2.arr
        go_wp2_with fail
        go_ret
        exact ⟨congrArg (fun l => Ending.returned (str l)) HD.out.symm, hext.more hb2⟩
    · have hlp : 0 < (limbs gk).length := by rw [limbs_pos gk (by omega)]; simp
      have hll := Nat.le_trans (HMONO.out gk hg) (Nat.le_trans HN.out (show 67108864 ≤ 536870912 by omega))
      have HQ := qsmall_any wr _ (limbs gk) 1000000000 HAR.out hll (by omega) (by omega)
      rw [val_limbs, show ((1000000000 : Nat) : Int) = 1000000000 from rfl] at HQ
      have HQ := Lib.hid HQ
      have hr9 := Nat.mod_lt gk (show 0 < 1000000000 by omega)
      have hq9 : gk / 1000000000 < gk := by omega
      have HG := Lib.hid (group_start gk)
      clear har
      obtain ⟨q, hq⟩ : ∃ q, gk / 1000000000 = q := ⟨_, rfl⟩
      obtain ⟨r, hr⟩ : ∃ r, gk % 1000000000 = r := ⟨_, rfl⟩
      rw [hq, hr] at HQ HG
      rw [hq] at hq9
      rw [hr] at hr9
      clear hq hr
      go_wp2_with fail
      refine HQ.out.mono ?_
      rintro e w1 ⟨v1, rfl, ho1, hx1⟩
      have HA1 := Lib.hid (ho1.mono hext.size)
      have har1 := ho1.arr
      obtain ⟨_, A1, c1, rfl, hc1, hm1, _⟩ := har1.open
      have HM1 := Lib.hid hm1; clear hm1 ho1 har1
      have hstart : DigAt w w1 u3 N q 0 r := ⟨bs, hown.ext hx1, by rw [HLOW.out, HG.out], by rw [show (10 : Nat) ^ (9 - 0) = 1000000000 from rfl]; exact hr9, hext.trans hx1⟩
      have HST := Lib.hid hstart; clear hstart
      have hew1 := hext.trans hx1
      go_wp2_with fail
      go_loopw [3, 5, 7] (fun out rv i wr2 => ∃ k r' : Nat, k ≤ 9 ∧ i = .int .i64 k ∧ rv = .int .u32 r' ∧ r' < 1000000000 ∧ DigAt w wr2 out N q k r' ∧ Own w.heap.size wr2 (Value.slice A1 (limbs q).length c1) (limbs q)) (fun _ _ i _ => 9 - (intOf i).toNat)
      case atStart => exact ⟨0, r, by omega, rfl, rfl, hr9, HST.out, HA1.out⟩
      case round =>
        obtain ⟨k, r', hk, rfl, rfl, hr', hD, howq⟩ := hrel
        have HD := Lib.hid hD; clear hD
        clear hc hc1 hlp hll hr9
        have hwz : w.heap.size ≤ wr.heap.size := by obtain ⟨_, _, _, _, hh⟩ := HD.out; exact hh.size
        have round : ∀ (_ : k < 9) (_ : q ≠ 0 ∨ r' ≠ 0), True := fun _ _ => trivial
        clear round
        by_cases hgo : k < 9 ∧ (q ≠ 0 ∨ r' ≠ 0)
        · obtain ⟨hk9, hqr⟩ := hgo
          obtain ⟨bs', hown', hlow', hrb, hext'⟩ := HD.out
          have HLIM := Lib.hid (show bs'.length + [UInt8.ofNat (48 + r' % 10)].length ≤ 2147483648 by have := low_split_len hlow' HLN.out; simp; omega)
          have HSTEP := Lib.hid (fun (wx : World) (o : Value) ho he => DigAt.step (w0 := w) (wr' := wx) (out' := o) hlow' hrb hk9 hqr ho he)
          clear hlow' hrb
          have hqd : (0 < (limbs q).length) ∨ ((limbs q).length ≤ 0 ∧ 0 < r') := by
            rcases Nat.eq_zero_or_pos q with h | h
            · subst h; exact .inr ⟨by simp [limbs_zero], by omega⟩
            · exact .inl (by rw [limbs_pos q (by omega)]; simp)
          clear hqr
          rcases hqd with hqd | ⟨hqd, hr0⟩
          all_goals
            go_wp2_with (at_builtin; go_must (refine wpList_append8 rfl _ _ rfl rfl (hown'.ext ((Ext.refl _).alloc _)) rfl (Arr8.fresh1 _ _ (UInt8.ofNat (48 + r' % 10)) (by rw [UInt8.toNat_ofNat']; omega)) HLIM.out (by simp; omega) ?_; intro v' w' hown2 hgr hb))
            go_roundw
            case rel => exact ⟨k + 1, r' / 10, by omega, by go_num, by go_num, by omega, HSTEP.out _ _ hown2 ((hext'.alloc _).more hb), ⟨howq.1, ROwn.other (ROwn.ext howq.2 ((Ext.refl _).alloc _)) (hown'.ext ((Ext.refl _).alloc _)) (by decide) hgr⟩⟩
            case measure => simp [intOf]; omega
        · have hdone : k = 9 ∨ q = 0 ∧ r' = 0 := by omega
          obtain ⟨bs', hown', hlow', hext'⟩ := HD.out.done hdone
          have HL' := Lib.hid hlow'
          have hqe : (limbs q).length ≤ 0 ∨ ¬ (limbs q).length ≤ 0 := by omega
          have HAQ := Lib.hid howq.arr
          clear hlow' hgo
          have hcases : (¬ k < 9) ∨ (k < 9 ∧ (limbs q).length ≤ 0 ∧ r' ≤ 0) := by
            rcases hdone with h | ⟨h1, h2⟩
            · exact .inl (by omega)
            · rcases Nat.lt_or_ge k 9 with h | h
              · exact .inr ⟨h, by rw [h1]; simp [limbs_zero], by omega⟩
              · exact .inl (by omega)
          clear hqe hdone
          rcases hcases with hk9 | ⟨hk9, hq0, hr0⟩
          all_goals
            go_wp2_with fail
            go_roundg q
            case measure => omega
            case rel => exact ⟨bs', by omega, HAQ.out, hown', HL'.out, hext'⟩
end Big
end Go.Proofs.YtdijknnlldjgmaaDoor
