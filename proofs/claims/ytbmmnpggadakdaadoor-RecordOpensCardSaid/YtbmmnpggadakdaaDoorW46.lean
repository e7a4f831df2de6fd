import Derived.Test.YtbmmnpggadakdaaDoorW45
import Derived.Test.YtbmmnpggadakdaaDoorW33
/- ref34.Open. -/
namespace Go.Proofs.YtbmmnpggadakdaaDoor
namespace Big
open Go.RowKit
theorem ended_byte (l : List UInt8) (h : l ≠ []) : endedS l = decide (byteAt l (l.length - 1) = 10) := by
  rcases last_cases l with rfl | ⟨m, c, rfl⟩
  · exact absurd rfl h
  · rw [byteAt_eq (m ++ [c]) _ (by simp)]
    unfold endedS
    simp only [List.length_append, List.length_cons, List.length_nil, Nat.zero_add, Nat.add_sub_cancel, List.getElem_concat_length, List.getLast?_append, List.getLast?_singleton, Option.some_or]
    rw [Bool.eq_iff_iff, beq_iff_eq, decide_eq_true_iff, Option.some.injEq]
    exact ⟨fun h => by rw [h]; rfl, fun h => UInt8.toNat_inj.1 (by simpa using h)⟩
theorem prefix_word (x : List UInt8) (h : x.length = 20) : Lib.hasPrefix x [115, 117, 109, 32] = (x.take 4 == [115, 117, 109, 32]) := by
  unfold Lib.hasPrefix
  rw [Bool.eq_iff_iff, List.isPrefixOf_iff_prefix, beq_iff_eq, List.prefix_iff_eq_take]
  exact ⟨fun h => h.symm, fun h => h.symm⟩
theorem unhex_length {l : List UInt8} (h : (unhexS l).2 = 0) : l.length = 16 := by
  unfold unhexS at h
  split at h
  · next h' => exact h'.1
  · cases h
theorem ropen_parts (l : List UInt8) (h1 : l.length ≤ 33554432) (h2 : l ≠ []) : ∃ (t : List (List UInt8)) (x : List UInt8) (u1 u2 fv : Nat),
    splitOn 10 (wholeS l) = t ++ [x] ∧ t.length ≤ l.length ∧ x.length ≤ l.length ∧ unhexS (x.drop 4) = (u1, u2) ∧ fnv (l.take (l.length - 21)) = fv ∧
    ((((byteAt l (l.length - 1) : Nat) : Int) != 10) = true ∧ openS l = ([], t.length, 20) ∨
     byteAt l (l.length - 1) = 10 ∧ ((x.length : Int) != 20) = true ∧ openS l = ([], t.length, 20) ∨
     byteAt l (l.length - 1) = 10 ∧ x.length = 20 ∧ (x.take 4 == [115, 117, 109, 32]) = false ∧ openS l = ([], t.length, 20) ∨
     byteAt l (l.length - 1) = 10 ∧ x.length = 20 ∧ (x.take 4 == [115, 117, 109, 32]) = true ∧ 21 ≤ l.length ∧ (((u2 : Int) != 0) = true ∧ openS l = ([], t.length, 20) ∨
       u2 = 0 ∧ (((fv : Int) != (u1 : Int)) = true ∧ openS l = ([], t.length, 19) ∨ fv = u1 ∧ openS l = (t, t.length, 0)))) := by
  obtain ⟨t, x, wh, dg, en, pf, v1, v2, hs, hwl, hxl, htl, hts, hhs, htp, hhp, hdg, hu, hq⟩ := open_parts l h1 h2
  have hwh : wh = wholeS l := by rw [← hts, (suffix_one l).2]
  have hen : en = endedS l := by rw [← hhs, (suffix_one l).1]
  rw [ended_byte l h2] at hen
  refine ⟨t, x, (unhexS (x.drop 4)).1, (unhexS (x.drop 4)).2, _, by rw [← hwh]; exact hs, by omega, by omega, rfl, rfl, ?_⟩
  by_cases hb : byteAt l (l.length - 1) = 10
  · rw [decide_eq_true hb] at hen
    right
    have hwn : wh.length = l.length - 1 := by
      rw [hwh]
      unfold wholeS
      rw [if_pos, List.length_dropLast]
      have := (ended_byte l h2).trans (decide_eq_true hb)
      unfold endedS at this
      simpa using this
    by_cases hx : x.length = 20
    · right
      have hpf : pf = (x.take 4 == [115, 117, 109, 32]) := by rw [← hhp]; exact prefix_word x hx
      by_cases hp : (x.take 4 == [115, 117, 109, 32]) = true
      · right
        rw [hp] at hpf
        have hdd : dg = x.drop 4 := by
          rw [← htp]
          unfold Lib.trimPrefix
          rw [if_pos (by rw [hhp]; exact hpf)]
          rfl
        rw [hdd] at hu
        rw [hu]
        have hn : wh.length - x.length = l.length - 21 := by omega
        have hl21 : 21 ≤ l.length := by omega
        refine ⟨hb, hx, hp, hl21, ?_⟩
        subst hen hpf
        rw [hn] at hq
        by_cases h0 : v2 = 0
        · right
          refine ⟨h0, ?_⟩
          rw [if_pos ⟨rfl, rfl, h0⟩] at hq
          by_cases hf : v1 = fnv (l.take (l.length - 21))
          · right
            rw [if_pos hf] at hq
            exact ⟨hf.symm, hq⟩
          · left
            rw [if_neg hf] at hq
            refine ⟨?_, hq⟩
            rw [bne_iff_ne]
            intro h
            exact hf (by omega)
        · left
          rw [if_neg (fun h => h0 h.2.2)] at hq
          exact ⟨by rw [bne_iff_ne]; simpa using h0, hq⟩
      · left
        have hp := eq_false_of_ne_true hp
        rw [hp] at hpf
        subst hpf
        rw [if_neg (fun h => by cases h.2.1)] at hq
        exact ⟨hb, hx, hp, hq⟩
    · left
      refine ⟨hb, by rw [bne_iff_ne]; omega, ?_⟩
      rw [hq, if_neg]
      rintro ⟨_, hp, h0⟩
      have h16 : dg.length = 16 := unhex_length (by rw [hu]; exact h0)
      rw [← htp] at h16
      unfold Lib.trimPrefix at h16
      rw [if_pos (by rw [hhp]; exact hp)] at h16
      simp at h16
      omega
  · left
    rw [decide_eq_false hb] at hen
    subst hen
    rw [if_neg (fun h => by cases h.1)] at hq
    exact ⟨by rw [bne_iff_ne]; omega, hq⟩
set_option maxRecDepth 100000 in
theorem ropen_any (w : World) (l : List UInt8) (hl : l.length ≤ 1073741824) :
    Calls Tryd.prog 23 #[str l] w fun e w' => ∃ v, e = .returned (.tuple #[v, .int .i64 ((openS l).2.1 : Int), .int .i64 ((openS l).2.2 : Int)]) ∧ OwnS w.heap.size w' v (openS l).1 ∧ Ext w w' := by
  rcases Nat.lt_or_ge 33554432 l.length with hbig | hsmall
  · have h1 : (33554432 : Int) < (l.length : Int) := by omega
    have hq : openS l = ([], 0, 7) := if_pos hbig
    rw [hq]
    clear hbig hl hq
    go_enter Tryd.func23, Tryd.ntmps23
    go_wp2_with fail
    go_ret3
    exact ⟨_, rfl, OwnS.none_ _ _, Ext.refl _⟩
  · by_cases hne : l = []
    · subst hne
      clear hl hsmall
      go_enter Tryd.func23, Tryd.ntmps23
      go_wp2_with fail
      go_ret3
      exact ⟨_, rfl, OwnS.none_ _ _, Ext.refl _⟩
    · obtain ⟨t, x, u1, u2, fv, hs, htl, hxl, hu, hfv, hq⟩ := ropen_parts l hsmall hne
      have HLN := Lib.hid (fun W => rlines_any W l hne hl)
      rw [hs] at HLN
      have HU := Lib.hid (fun W => runhex_any W (x.drop 4) (by rw [List.length_drop]; omega))
      rw [hu] at HU
      have HSUM := Lib.hid (fun W => rsum_any W (l.take (l.length - 21)) (by rw [List.length_take]; omega))
      rw [hfv] at HSUM
      have HLT := Lib.hid (show (t ++ [x]).length = t.length + 1 by simp)
      have hget : Hid (∀ (h : t.length < (t ++ [x]).length), (t ++ [x])[t.length] = x) := Lib.hid (fun h => by simp)
      have HTK := Lib.hid (show (t ++ [x]).take t.length = t by simp)
      have hb : (l == ([] : List UInt8)) = false := by rw [beq_eq_false_iff_ne]; exact hne
      have h1 : ¬ (33554432 : Int) < (l.length : Int) := by omega
      have hl0 : 1 ≤ l.length := by
        cases l with
        | nil => exact absurd rfl hne
        | cons _ _ => simp
      have hl1 : (l.length : Int) - 1 = ((l.length - 1 : Nat) : Int) := by omega
      have hm1 : t.length ≤ 33554432 := by omega
      have HQ := Lib.hid hq
      clear hl hu hs hq hfv
      generalize openS l = q at *
      go_enter Tryd.func23, Tryd.ntmps23
      go_wp2_with fail
      refine (HLN.out _).mono ?_
      rintro e w1 ⟨v1, rfl, ho1, hx1⟩
      have HX1 := Lib.hid hx1; clear hx1
      have HO1 := Lib.hid ho1
      obtain ⟨A, c, hv, hc, _, hcell⟩ := ho1.arr.open
      subst hv
      obtain ⟨b, o, rfl, _, hcell⟩ := hcell (by rw [HLT.out]; omega)
      have hx := hcell t.length (by rw [HLT.out]; omega)
      rw [hget.out] at hx
      rw [HLT.out] at HO1 hc ⊢
      have hc' : t.length ≤ c := by omega
      clear hcell ho1 hc
      rcases HQ.out with ⟨hb1, rfl⟩ | ⟨hb1, hx20, rfl⟩ | ⟨hb1, hx20, hp, rfl⟩ | ⟨hb1, hx20, hp, hl21, hr⟩
      · clear HQ
        go_wp2_with fail
        go_ret3
        exact ⟨_, rfl, OwnS.none_ _ _, HX1.out⟩
      · clear HQ
        go_wp2_with fail
        go_ret3
        exact ⟨_, rfl, OwnS.none_ _ _, HX1.out⟩
      · clear HQ
        go_wp2_with fail
        go_ret3
        exact ⟨_, rfl, OwnS.none_ _ _, HX1.out⟩
      · clear HQ
        have hl21' : (21 : Int) ≤ (l.length : Int) := by omega
        have hl2 : (l.length : Int) - 21 = ((l.length - 21 : Nat) : Int) := by omega
        have hl3 : l.length - 21 ≤ l.length := by omega
        clear hl21
        go_wp2_with fail
        refine (HU.out _).mono ?_
        rintro e2 w2 ⟨rfl, rfl⟩
        rcases hr with ⟨h2, rfl⟩ | ⟨rfl, ⟨h2, rfl⟩ | ⟨rfl, rfl⟩⟩
        · go_wp2_with fail
          go_ret3
          exact ⟨_, rfl, OwnS.none_ _ _, HX1.out⟩
        · go_wp2_with fail
          refine (HSUM.out _).mono ?_
          rintro e3 w3 ⟨rfl, rfl⟩
          go_wp2_with fail
          go_ret3
          exact ⟨_, rfl, OwnS.none_ _ _, HX1.out⟩
        · go_wp2_with fail
          refine (HSUM.out _).mono ?_
          rintro e3 w3 ⟨rfl, rfl⟩
          go_wp2_with fail
          go_ret3
          obtain ⟨A', c', hv, ho⟩ := ROwn.take HO1.out t.length (by simp)
          injection hv with hv1 hv2 hv3
          subst hv1 hv3
          rw [← List.map_take, HTK.out] at ho
          exact ⟨_, rfl, ho, HX1.out⟩
end Big
end Go.Proofs.YtbmmnpggadakdaaDoor
