import Derived.Test.YtgopljllknbelaaGreatDoorM34
/- PrinterFewest. Printed by a program. -/
namespace Go.Proofs.YtgopljllknbelaaGreatDoor
namespace Big
open Go.RowKit
theorem fmt_free (n : Int) (h1 : -64 ≤ n) (h2 : n ≤ 64) : ∀ c ∈ fmtI n, c ≠ 40 ∧ c ≠ 41 := by
  have key : ∀ k : Fin 129, (fmtI ((k.val : Int) - 64)).all (fun c => c != 40 && c != 41) = true := by decide +kernel
  have := key ⟨(n + 64).toNat, by omega⟩
  rw [show (((⟨(n + 64).toNat, by omega⟩ : Fin 129).val : Int) - 64) = n by simp; omega] at this
  exact free_of this
theorem parseR_read2 {s : List UInt8} {y : Ex} {n k : Nat} (h : parseR s = (some y, n, k)) : ∃ ts m f b, scanT s = (ts, m, 0) ∧ pSum ts f 0 = (some y, b) := by
  unfold parseR at h
  split at h
  · injection h with h _
    cases h
  · rename_i h0
    have h0' : (scanT s).2.2 = 0 := by omega
    split at h
    · injection h with h _
      cases h
    · rcases hp : pSum (scanT s).1 ((scanT s).1.length + 1) 0 with ⟨_ | z, b⟩
      · rw [hp] at h
        injection h with h _
        cases h
      · rw [hp] at h
        simp only at h
        split at h
        · injection h with h _
          injection h with h
          subst h
          exact ⟨(scanT s).1, (scanT s).2.1, _, b, by rw [← h0'], hp⟩
        · injection h with h _
          cases h
/-- Without one pair of parentheses the text is read as another tree, or not at all. -/
theorem fewest {e y : Ex} (hg : e.Good) {s : List UInt8} (hs : nodeT fmtI e = s) {i k : Nat} (hi : i < k) (hk : k < s.length) (hc : s[i]'(by omega) = 40) (hd : s[k] = 41) {n c : Nat}
    (h : parseR ((s.take i ++ (s.take k).drop (i + 1)) ++ s.drop (k + 1)) = (some y, n, c)) : flat 0 e ≠ flat 0 y := by
  subst hs
  intro he
  have hey := flat_inj e y 0 he
  subst hey
  obtain ⟨ts, m, f, b, h1, h2⟩ := parseR_read2 h
  have h3 := read_open h1 h2
  have h4 := open40_less hi hk hc hd
  have h5 := open40_node fmtI (fun n h1 h2 => open40_none (fun c hc => (fmt_free n h1 h2 c hc).1)) e hg
  rw [List.drop_take, List.append_assoc] at h3
  omega
theorem hgt_bound (s : List UInt8) (j : Nat) : -(s.length : Int) ≤ hgt s j ∧ hgt s j ≤ (s.length : Int) := by
  unfold hgt open40 close41
  have h1 := List.count_le_length (a := (40 : UInt8)) (l := s.take j)
  have h2 := List.count_le_length (a := (41 : UInt8)) (l := s.take j)
  rw [List.length_take] at h1 h2
  omega
set_option maxHeartbeats 4000000 in
set_option maxRecDepth 100000 in
theorem printerFewest_any (w : World) (v : Value) (l : List Int) (z : Int) (h : ArrI w v l) (hz1 : -9223372036854775808 ≤ z) (hz2 : z ≤ 9223372036854775807) (hm : MaxV w) (hpw : Pow10 w) :
    Calls Tryz.prog 4 #[v, .int .i64 z] w fun e w' => e = .returned (.bool true) ∧ Ext w w' := by
  have HAW := Lib.hid (awake20_any w hm hpw)
  have HM := Lib.hid hm
  have HPW := Lib.hid hpw
  clear hm hpw
  have HL := Lib.hid h
  have HLT := Lib.hid (fun W hx => light_any W v l (HL.out.ext hx))
  obtain ⟨A0, c0, rfl, _⟩ := h.open
  clear h
  by_cases hlt : 120 < l.length
  · have hd : decide (l.length ≤ 120) = false := decide_eq_false (by omega)
    rw [hd] at HLT
    clear HL hlt hd
    go_enter Tryz.func4, Tryz.ntmps4
    go_wp2_with fail
    refine HAW.out.mono ?_
    rintro e w1 ⟨rfl, hx1⟩
    have HX1 := Lib.hid hx1
    clear hx1
    go_wp2_with fail
    refine (HLT.out _ HX1.out).mono ?_
    rintro e w2 ⟨rfl, rfl⟩
    go_wp2_with fail
    go_ret
    exact ⟨rfl, HX1.out⟩
  have hd : decide (l.length ≤ 120) = true := decide_eq_true (by omega)
  rw [hd] at HLT
  have hll : l.length ≤ 120 := by omega
  clear hlt hd
  go_enter Tryz.func4, Tryz.ntmps4
  go_wp2_with fail
  refine HAW.out.mono ?_
  rintro e w1 ⟨rfl, hx1⟩
  have HX1 := Lib.hid hx1
  clear hx1
  go_wp2_with fail
  refine (HLT.out _ HX1.out).mono ?_
  rintro e w2 ⟨rfl, rfl⟩
  go_wp2_with fail
  refine (new_any _ _ l (HL.out.ext HX1.out) (by omega)).mono ?_
  rintro e w2 ⟨rfl, ht2, hx2, hs2⟩
  rw [← hs2] at ht2
  have HX2 := Lib.hid (HX1.out.trans hx2)
  have hg2 : w.heap.size ≤ w1.heap.size := HX1.out.size
  have hg3 : w.heap.size ≤ w2.heap.size := HX2.out.size
  have HEX := Lib.hid (expr_any 5 w1.heap.size w2 _ l 0 false ht2 (by decide) (by decide))
  generalize w1.heap.size = g at *
  clear ht2 hx2 hs2 HLT
  go_wp2_with fail
  refine HEX.out.mono ?_
  rintro e w3 ⟨x, v3, a3, rfl, hgd, hsz, hdp, hown, htp, hk⟩
  have hsz2 : x.size ≤ 31 := by have : 2 ^ 5 ≤ 32 := (by decide); omega
  have hdp2 : x.depth ≤ 5 := hdp
  have HRX : Hid (RNd w3 v3 (flat 0 x)) := Lib.hid (by rw [List.nil_append] at hown; exact hown.read)
  have HX3 := Lib.hid (hk.to_ext HX2.out hg3 hg2)
  clear hsz hdp hown htp hk HEX hg2 hg3
  have HF := Lib.hid (fun W h hx => pformat_any W v3 x h hgd (by omega) (by omega) (HM.out.ext (w' := W) hx) (HPW.out.ext hx))
  have hne := nodeT_ne x hgd
  have hbl := Bal.node fmtI fmt_free x hgd
  have htl := nodeT_len fmtI fmtI_len x hgd
  have HFL : Hid ((flat 0 x).length ≤ 1000000) := Lib.hid (by rw [flat_len]; omega)
  have hsl : (nodeT fmtI x).length ≤ 30000 := by omega
  obtain ⟨s, hs⟩ : ∃ s, nodeT fmtI x = s := ⟨_, rfl⟩
  rw [hs] at HF hne htl hsl hbl
  have HBL := Lib.hid hbl
  have HFW := Lib.hid (fun i k hi hk hc hd n c y h => fewest (y := y) (n := n) (c := c) (i := i) (k := k) hgd hs hi hk hc hd h)
  generalize flat 0 x = fl at *
  obtain ⟨A3, c3, hv3⟩ := HRX.out.shape
  subst hv3
  clear hs hbl
  have hsp : 0 < s.length := by
    rcases Nat.eq_zero_or_pos s.length with h | h
    · exact absurd (List.eq_nil_of_length_eq_zero h) hne
    · exact h
  have hs0 : ((s.length : Int) == 0) = false := by rw [beq_eq_false_iff_ne]; omega
  have hs0n : (s.length == 0) = false := by rw [beq_eq_false_iff_ne]; omega
  have hsi : (0 : Int) < (s.length : Int) := by omega
  have HMK := Lib.hid (fun W => mod_any W z s.length hz1 hz2 (by omega) (by omega))
  have hm1 := Int.emod_nonneg z (show (s.length : Int) ≠ 0 by omega)
  have hm2 := Int.emod_lt_of_pos z (show (0 : Int) < (s.length : Int) by omega)
  generalize z % (s.length : Int) = q at *
  obtain ⟨i, rfl⟩ := Int.eq_ofNat_of_zero_le hm1
  have hil : i < s.length := by omega
  clear hgd hsz2 hdp2 htl HL hne hz1 hz2 hm1 hm2
  have hdn : s ≠ [] := fun h => by rw [h] at hsp; exact absurd hsp (by simp)
  rcases Nat.lt_or_ge 400 s.length with hy | hy
  · have hy' : (400 : Int) < (s.length : Int) := by omega
    clear hy
    go_wp2_with fail
    refine (HF.out _ HRX.out HX3.out).mono ?_
    rintro e w4 ⟨rfl, hx4⟩
    have HX4 := Lib.hid (HX3.out.trans hx4)
    clear hx4
    go_wp2_with fail
    go_ret
    exact ⟨rfl, HX4.out⟩
  have hy' : ¬ (400 : Int) < (s.length : Int) := by omega
  have hi0 : (0 : Int) ≤ (i : Int) := by omega
  have hii : (i : Int) < (s.length : Int) := by omega
  have hbt := byteAt_eq s i hil
  by_cases hc : s[i] = 40
  case neg =>
    have hb1 : ((byteAt s i : Int) != 40) = true := by
      rw [bne_iff_ne]
      intro he
      apply hc
      rw [hbt] at he
      exact UInt8.toNat_inj.1 (by have : (40 : UInt8).toNat = 40 := rfl; omega)
    clear hbt hc hy
    go_wp2_with fail
    refine (HF.out _ HRX.out HX3.out).mono ?_
    rintro e w4 ⟨rfl, hx4⟩
    have HX4 := Lib.hid (HX3.out.trans hx4)
    clear hx4
    go_wp2_with fail
    refine (HMK.out _).mono ?_
    rintro e w5 ⟨rfl, rfl⟩
    go_wp2_with fail
    go_ret
    exact ⟨rfl, HX4.out⟩
  have hb1 : ((byteAt s i : Int) != 40) = false := by rw [hbt, hc]; rfl
  obtain ⟨K, hKl, hiK, hK0, hK41, hKm⟩ := HBL.out.match_ hil hc
  have HC := Lib.hid hc
  have HK41 := Lib.hid hK41
  have HKL := Lib.hid hKl
  have HIK := Lib.hid hiK
  have HK0 := Lib.hid hK0
  have HKM := Lib.hid hKm
  obtain ⟨t, ht⟩ : ∃ t, t = (s.take i ++ (s.take K).drop (i + 1)) ++ s.drop (K + 1) := ⟨_, rfl⟩
  have HFT := Lib.hid (fun n c y h => HFW.out i K hiK hKl hc hK41 n c y h)
  rw [← ht] at HFT
  have HTT := Lib.hid ht
  have HPR := Lib.hid (fun W hx => rparse_any W t (HM.out.ext (w' := W) hx))
  unfold ParseP at HPR
  obtain ⟨r, hr⟩ : ∃ r, parseR t = r := ⟨_, rfl⟩
  rw [hr] at HPR HFT
  have HNS : Hid (r.1 = none → r.2.2 ≠ 0) := Lib.hid (fun h => by
    obtain ⟨a, b, c⟩ := r
    simp only at h
    subst h
    exact parseR_none hr)
  have HSS : Hid (∀ y, r.1 = some y → r.2.2 = 0 ∧ (flat 0 y).length ≤ 1000000) := Lib.hid (fun y h => by
    obtain ⟨a, b, c⟩ := r
    simp only at h
    subst h
    have h2 := parseR_some hr
    exact ⟨h2.2.2.2.2.2, by rw [flat_len]; omega⟩)
  -- the sign ahead of the parenthesis
  have key : (i = 0 ∨ (0 < i ∧ ¬ (97 ≤ byteAt s (i - 1) ∧ byteAt s (i - 1) ≤ 122))) ∨ (0 < i ∧ 97 ≤ byteAt s (i - 1) ∧ byteAt s (i - 1) ≤ 122) := by omega
  have hb9 := hgt_bound s
  have HB9 := Lib.hid hb9
  clear hbt hc hy hK0 hK41 hKm ht hr hb9 HFW HBL
  rcases key with key | ⟨hip, hc1, hc2⟩
  case inr =>
    have hw1 : IntKind.i64.wrap ((i : Int) - 1) = (i : Int) - 1 := IntWalk.i64_in _ (by omega)
    have hip2 : (0 : Int) < (i : Int) := by omega
    have hq1 : (0 : Int) ≤ (i : Int) - 1 := by omega
    have hq2 : (i : Int) - 1 < (s.length : Int) := by omega
    have hq3 : ((i : Int) - 1).toNat = i - 1 := by omega
    have hc1i : (97 : Int) ≤ (byteAt s (i - 1) : Int) := by omega
    have hc2i : (byteAt s (i - 1) : Int) ≤ 122 := by omega
    clear hc1 hc2
    go_wp2_with fail
    refine (HF.out _ HRX.out HX3.out).mono ?_
    rintro e w4 ⟨rfl, hx4⟩
    have HX4 := Lib.hid (HX3.out.trans hx4)
    clear hx4
    go_wp2_with fail
    refine (HMK.out _).mono ?_
    rintro e w5 ⟨rfl, rfl⟩
    go_wp2_with fail
    go_ret
    exact ⟨rfl, HX4.out⟩
  have HNSO := HNS
  have hcs : (¬ 0 < i) ∨ (0 < i ∧ ¬ 97 ≤ byteAt s (i - 1)) ∨ (0 < i ∧ 97 ≤ byteAt s (i - 1) ∧ ¬ byteAt s (i - 1) ≤ 122) := by omega
  clear key
  rcases hcs with hip | ⟨hip, hc1⟩ | ⟨hip, hc1, hc2⟩
  case' inl =>
    have hip2 : ¬ (0 : Int) < (i : Int) := by omega
  case' inr.inl =>
    have hw1 : IntKind.i64.wrap ((i : Int) - 1) = (i : Int) - 1 := IntWalk.i64_in _ (by omega)
    have hip2 : (0 : Int) < (i : Int) := by omega
    have hq1 : (0 : Int) ≤ (i : Int) - 1 := by omega
    have hq2 : (i : Int) - 1 < (s.length : Int) := by omega
    have hq3 : ((i : Int) - 1).toNat = i - 1 := by omega
    have hc1i : ¬ (97 : Int) ≤ (byteAt s (i - 1) : Int) := by omega
    clear hc1
  case' inr.inr =>
    have hw1 : IntKind.i64.wrap ((i : Int) - 1) = (i : Int) - 1 := IntWalk.i64_in _ (by omega)
    have hip2 : (0 : Int) < (i : Int) := by omega
    have hq1 : (0 : Int) ≤ (i : Int) - 1 := by omega
    have hq2 : (i : Int) - 1 < (s.length : Int) := by omega
    have hq3 : ((i : Int) - 1).toNat = i - 1 := by omega
    have hc1i : (97 : Int) ≤ (byteAt s (i - 1) : Int) := by omega
    have hc2i : ¬ (byteAt s (i - 1) : Int) ≤ 122 := by omega
    clear hc1 hc2
  all_goals
    go_wp2_with fail
    refine (HF.out _ HRX.out HX3.out).mono ?_
    rintro e w4 ⟨rfl, hx4⟩
    have HX4 := Lib.hid (HX3.out.trans hx4)
    have HR4 := Lib.hid (HRX.out.ext hx4)
    clear hx4
    go_wp2_with fail
    refine (HMK.out _).mono ?_
    rintro e w5 ⟨rfl, rfl⟩
    go_wp2_with fail
    try clear hw1 hq1 hq2 hq3
    try clear hc1i
    try clear hc2i
    go_loopw [8, 9] (fun s8 s9 wr => ∃ k : Nat, i ≤ k ∧ k ≤ K ∧ s9 = .int .i64 (k : Int) ∧ s8 = .int .i64 (hgt s k - hgt s i) ∧ w4 = wr) (fun _ s9 _ => K + 1 - (intOf s9).toNat)
    case atStart => exact ⟨i, Nat.le_refl _, by omega, rfl, by rw [Int.sub_self], rfl⟩
    case round =>
      obtain ⟨k, hik, hkK, rfl, rfl, rfl⟩ := hrel
      have hkl : k < s.length := by omega
      have hst := hgt_step hkl
      have hbk := byteAt_eq s k hkl
      have hbd1 := HB9.out k
      have hbd2 := HB9.out (k + 1)
      have hbd0 := HB9.out i
      have hki : (k : Int) < (s.length : Int) := by omega
      have hk0 : (0 : Int) ≤ (k : Int) := by omega
      by_cases hkK2 : k = K
      · subst hkK2
        have h41 := HK41.out
        rw [h41] at hst hbk
        have hd0 := HK0.out
        have hd1 : hgt s k - hgt s i = 1 := by
          rw [if_neg (by decide), if_pos rfl] at hst
          omega
        have hb40 : ((byteAt s k : Int) == 40) = false := by rw [hbk]; rfl
        have hb41 : ((byteAt s k : Int) == 41) = true := by rw [hbk]; rfl
        rw [hd1]
        have hne1 : ((k : Int) == (s.length : Int)) = false := by rw [beq_eq_false_iff_ne]; omega
        have hne2 : (k == s.length) = false := by rw [beq_eq_false_iff_ne]; omega
        have hwi : IntKind.i64.wrap ((i : Int) + 1) = (i : Int) + 1 := IntWalk.i64_in _ (by omega)
        have hwk : IntKind.i64.wrap ((k : Int) + 1) = (k : Int) + 1 := IntWalk.i64_in _ (by omega)
        have g1 : (i : Int) ≤ (s.length : Int) := by omega
        have g2 : (k : Int) ≤ (s.length : Int) := by omega
        have g3 : (0 : Int) ≤ (i : Int) + 1 := by omega
        have g4 : (i : Int) + 1 ≤ (k : Int) := by omega
        have g5 : (0 : Int) ≤ (k : Int) + 1 := by omega
        have g6 : (k : Int) + 1 ≤ (s.length : Int) := by omega
        have g7 : ((i : Int) + 1).toNat = i + 1 := by omega
        have g8 : ((k : Int) + 1).toNat = k + 1 := by omega
        have a1 : ∀ W : World, (binOp .add 9 (str (s.take i)) (str ((s.take k).drop (i + 1)))).run Tryz.prog W = .ok (str (s.take i ++ (s.take k).drop (i + 1))) W := fun W => run_add_str _ _ (by simp only [List.length_take, List.length_drop]; omega) W
        have a2 : ∀ W : World, (binOp .add 9 (str (s.take i ++ (s.take k).drop (i + 1))) (str (s.drop (k + 1)))).run Tryz.prog W = .ok (str t) W := fun W => by
          rw [HTT.out]
          exact run_add_str _ _ (by simp only [List.length_append, List.length_take, List.length_drop]; omega) W
        clear h41 hst hbk hbd1 hbd2 hbd0 hd0 hd1 hkK
        obtain ⟨_ | y, n1, c1⟩ := r
        · have hcn := HNS.out rfl
          have hcb : ((c1 : Int) != 0) = true := by rw [bne_iff_ne]; simp only at hcn; omega
          simp only [exNodes] at HPR
          generalize (c1 : Int) = ci at *
          clear hcn
          go_wp2_with fail
          go_region_held3 (fun w' => Ext w4 w')
            (first | (exact (Ext.refl w4).drew) | (exact Ext.trans (by assumption) (by assumption)))
            ((go_at_call 22; (refine (HPR.out _ (HX4.out.trans (by assumption))).mono ?_); rintro e w5 ⟨v5, rfl, hx5, hr5⟩; obtain ⟨A5, c5, rfl⟩ := hr5.shape; clear hr5))
          all_goals
            have HX5 : Hid (Ext w4 w5) := Lib.hid (by assumption)
            go_wp2_with fail
            go_ret
            exact ⟨rfl, HX4.out.trans HX5.out⟩
        · obtain ⟨hcn, hfy⟩ := HSS.out y rfl
          simp only at hcn
          subst hcn
          have HNE := Lib.hid (HFT.out n1 0 y rfl)
          have HFY := Lib.hid hfy
          simp only [exNodes] at HPR
          generalize flat 0 y = fy at *
          have hc0 : (((0 : Nat) : Int)) = 0 := rfl
          rw [hc0] at HPR
          clear hc0 hfy HSS HNS HFT HNSO
          go_wp2_with fail
          go_region_held3 (fun w' => Ext w4 w')
            (first | (exact (Ext.refl w4).drew) | (exact Ext.trans (by assumption) (by assumption)))
            ((go_at_call 22; (refine (HPR.out _ (HX4.out.trans (by assumption))).mono ?_); rintro e w5 ⟨v5, rfl, hx5, hr5⟩; have HR5 := Lib.hid hr5; obtain ⟨A5, c5, rfl⟩ := hr5.shape; clear hr5))
          all_goals
            have HX5 : Hid (Ext w4 w5) := Lib.hid (by assumption)
            have HSD := Lib.hid (rsameD_any w5 _ _ fl fy (HR4.out.ext HX5.out) HR5.out HFL.out HFY.out)
            go_wp2_with fail
            refine HSD.out.mono ?_
            rintro e w6 ⟨rb, rfl, hiff, hd6⟩
            have hrf : rb = false := by
              cases rb
              · rfl
              · exact absurd (hiff.1 rfl) HNE.out
            subst hrf
            have HX6 := Lib.hid (HX5.out.trans hd6.ext)
            clear hiff hd6
            go_wp2_with fail
            go_ret
            exact ⟨rfl, HX4.out.trans HX6.out⟩
      · have hkK3 : k < K := by omega
        have hpos := HKM.out k hik hkK3
        have hwk : IntKind.i64.wrap ((k : Int) + 1) = (k : Int) + 1 := IntWalk.i64_in _ (by omega)
        obtain ⟨d', hd'⟩ : ∃ d' : Int, d' = hgt s (k + 1) - hgt s i := ⟨_, rfl⟩
        obtain ⟨d, hd⟩ : ∃ d : Int, d = hgt s k - hgt s i := ⟨_, rfl⟩
        have hdp : 0 < d' := by omega
        have hdb : -100000 ≤ d ∧ d ≤ 100000 := by omega
        have hdd : d' = d + (if s[k] = 40 then 1 else if s[k] = 41 then -1 else 0) := by rw [hd', hd, hst]; omega
        have HDD := Lib.hid hd'
        rw [← hd]
        clear hst hbd1 hbd2 hbd0 hpos hd hd'
        by_cases c40 : s[k] = 40
        · rw [c40] at hbk hdd
          rw [if_pos rfl] at hdd
          subst hdd
          have hb40 : ((byteAt s k : Int) == 40) = true := by rw [hbk]; rfl
          have hb41 : ((byteAt s k : Int) == 41) = false := by rw [hbk]; rfl
          have hz : ((d + 1) == 0) = false := by rw [beq_eq_false_iff_ne]; omega
          have hwd : IntKind.i64.wrap (d + 1) = d + 1 := IntWalk.i64_in _ (by omega)
          clear c40 hbk
          go_wp2_with fail
          go_roundw
          case rel => exact ⟨k + 1, by omega, by omega, by go_num, by rw [← HDD.out], trivial⟩
          case measure => simp [intOf]; omega
        · rw [if_neg c40] at hdd
          have hb40 : ((byteAt s k : Int) == 40) = false := by
            rw [beq_eq_false_iff_ne]
            intro he
            apply c40
            rw [hbk] at he
            exact UInt8.toNat_inj.1 (by have : (40 : UInt8).toNat = 40 := rfl; omega)
          by_cases c41 : s[k] = 41
          · rw [if_pos c41] at hdd
            have hb41 : ((byteAt s k : Int) == 41) = true := by rw [hbk, c41]; rfl
            have hde : d' = d - 1 := by omega
            subst hde
            have hz : ((d - 1) == 0) = false := by rw [beq_eq_false_iff_ne]; omega
            have hwd : IntKind.i64.wrap (d - 1) = d - 1 := IntWalk.i64_in _ (by omega)
            clear c40 c41 hbk hdd
            go_wp2_with fail
            go_roundw
            case rel => exact ⟨k + 1, by omega, by omega, by go_num, by rw [← HDD.out], trivial⟩
            case measure => simp [intOf]; omega
          · rw [if_neg c41] at hdd
            have hb41 : ((byteAt s k : Int) == 41) = false := by
              rw [beq_eq_false_iff_ne]
              intro he
              apply c41
              rw [hbk] at he
              exact UInt8.toNat_inj.1 (by have : (41 : UInt8).toNat = 41 := rfl; omega)
            have hde : d' = d := by omega
            subst hde
            have hz : (d' == 0) = false := by rw [beq_eq_false_iff_ne]; omega
            clear c40 c41 hbk hdd
            go_wp2_with fail
            go_roundw
            case rel => exact ⟨k + 1, by omega, by omega, by go_num, by rw [← HDD.out], trivial⟩
            case measure => simp [intOf]; omega
end Big
end Go.Proofs.YtgopljllknbelaaGreatDoor
