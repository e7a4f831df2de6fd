import Derived.Test.YtbmmnpggadakdaaDoorW44
import Derived.Test.YtbmmnpggadakdaaDoorW36
import Derived.Test.YtbmmnpggadakdaaDoorW32
/- record.Open. -/
namespace Go.Proofs.YtbmmnpggadakdaaDoor
namespace Big
open Go.RowKit
theorem split_sum (c : UInt8) (l : List UInt8) : ∀ (t : List (List UInt8)) (x : List UInt8), splitOn c l = t ++ [x] → t.flatMap (· ++ [c]) ++ x = l := by
  obtain ⟨n, hn⟩ : ∃ n, l.length = n := ⟨_, rfl⟩
  induction n generalizing l with
  | zero =>
    intro t x h
    obtain rfl := List.length_eq_zero_iff.1 hn
    have h : [] ++ [[]] = t ++ [x] := h
    obtain ⟨h1, h2⟩ := List.append_inj' h rfl
    injection h2 with h2
    subst h1 h2
    rfl
  | succ n ih =>
    intro t x h
    rcases last_cases l with rfl | ⟨m, b, rfl⟩
    · cases hn
    · have hm : m.length = n := by simpa using hn
      by_cases hb : b = c
      · subst hb
        rw [splitOn_snoc_same] at h
        obtain ⟨h1, h2⟩ := List.append_inj' h rfl
        injection h2 with h2
        subst h2
        obtain ⟨t', x', h3⟩ : ∃ t' x', splitOn b m = t' ++ [x'] := by
          have hne := splitOn_ne b m
          exact ⟨_, _, (List.dropLast_concat_getLast hne).symm⟩
        have := ih m hm t' x' h3
        rw [← h1, h3, List.flatMap_append, List.append_nil]
        simp only [List.flatMap_cons, List.flatMap_nil, List.append_nil]
        rw [← List.append_assoc, this]
      · obtain ⟨t', x', h3, h4⟩ := splitOn_snoc_other c b hb m
        rw [h4] at h
        obtain ⟨h1, h2⟩ := List.append_inj' h rfl
        injection h2 with h2
        subst h1 h2
        rw [← List.append_assoc, ih m hm t' x' h3]
theorem flat_length (c : UInt8) (t : List (List UInt8)) : t.length ≤ (t.flatMap (· ++ [c])).length := by
  induction t with
  | nil => simp
  | cons a t ih => simp only [List.flatMap_cons, List.length_append, List.length_cons, List.length_nil]; omega
theorem wholeS_length (l : List UInt8) : (wholeS l).length ≤ l.length := by
  unfold wholeS
  split
  · simp
  · exact Nat.le_refl _
/-- What there is to a text that is not too long and not empty. -/
theorem open_parts (l : List UInt8) (h1 : l.length ≤ 33554432) (h2 : l ≠ []) : ∃ (t : List (List UInt8)) (x wh dg : List UInt8) (en pf : Bool) (u1 u2 : Nat),
    splitOn 10 wh = t ++ [x] ∧ wh.length ≤ l.length ∧ x.length ≤ wh.length ∧ t.length ≤ wh.length ∧ Lib.trimSuffix l [10] = wh ∧ Lib.hasSuffix l [10] = en ∧
    Lib.trimPrefix x [115, 117, 109, 32] = dg ∧ Lib.hasPrefix x [115, 117, 109, 32] = pf ∧ dg.length ≤ x.length ∧ unhexS dg = (u1, u2) ∧
    openS l = (if en = true ∧ pf = true ∧ u2 = 0 then (if u1 = fnv (l.take (wh.length - x.length)) then (t, t.length, 0) else ([], t.length, 19)) else ([], t.length, 20)) := by
  obtain ⟨t, h3, h4⟩ := split_last l
  have h5 := split_sum 10 _ t _ h3
  have h6 := congrArg List.length h5
  rw [List.length_append] at h6
  have h7 := flat_length 10 t
  refine ⟨t, lastS l, wholeS l, _, endedS l, _, (unhexS (Lib.trimPrefix (lastS l) [115, 117, 109, 32])).1, (unhexS (Lib.trimPrefix (lastS l) [115, 117, 109, 32])).2, h3, wholeS_length l, by omega, by omega, (suffix_one l).2, (suffix_one l).1, rfl, rfl, ?_, rfl, ?_⟩
  · unfold Lib.trimPrefix
    split
    · simp
    · exact Nat.le_refl _
  · unfold openS
    rw [if_neg (by omega), if_neg h2, h3]
    simp only [List.length_append, List.length_cons, List.length_nil, Nat.zero_add, Nat.add_sub_cancel, List.dropLast_concat]
theorem open_cases (t : List (List UInt8)) (q : List (List UInt8) × Nat × Nat) (en pf : Bool) (u1 u2 fv : Nat)
    (hq : q = (if en = true ∧ pf = true ∧ u2 = 0 then (if u1 = fv then (t, t.length, 0) else ([], t.length, 19)) else ([], t.length, 20))) :
    (en = false ∧ q = ([], t.length, 20)) ∨ (en = true ∧ pf = false ∧ q = ([], t.length, 20)) ∨ (en = true ∧ pf = true ∧ ((u2 : Int) != 0) = true ∧ q = ([], t.length, 20)) ∨
    (en = true ∧ pf = true ∧ u2 = 0 ∧ ((u1 : Int) != (fv : Int)) = true ∧ q = ([], t.length, 19)) ∨ (en = true ∧ pf = true ∧ u2 = 0 ∧ u1 = fv ∧ q = (t, t.length, 0)) := by
  cases en
  · exact .inl ⟨rfl, hq⟩
  · cases pf
    · exact .inr (.inl ⟨rfl, rfl, hq⟩)
    · by_cases h : u2 = 0
      · by_cases h' : u1 = fv
        · rw [if_pos ⟨rfl, rfl, h⟩, if_pos h'] at hq
          exact .inr (.inr (.inr (.inr ⟨rfl, rfl, h, h', hq⟩)))
        · rw [if_pos ⟨rfl, rfl, h⟩, if_neg h'] at hq
          exact .inr (.inr (.inr (.inl ⟨rfl, rfl, h, by rw [bne_iff_ne]; omega, hq⟩)))
      · rw [if_neg (fun h' => h h'.2.2)] at hq
        exact .inr (.inr (.inl ⟨rfl, rfl, by rw [bne_iff_ne]; omega, hq⟩))
set_option maxRecDepth 100000 in
theorem open_any (w : World) (l : List UInt8) (hl : l.length ≤ 1073741824) (hT : Tab16 w) (hm : MaxVar w) (hE : ErrVars w) :
    Calls Tryd.prog 21 #[str l] w fun e w' => ∃ v, e = .returned (.tuple #[v, .int .i64 ((openS l).2.1 : Int), .int .i64 ((openS l).2.2 : Int)]) ∧ OwnS w.heap.size w' v (openS l).1 ∧ Ext w w' := by
  rcases Nat.lt_or_ge 33554432 l.length with hbig | hsmall
  · have h1 : (33554432 : Int) < (l.length : Int) := by omega
    have hq : openS l = ([], 0, 7) := if_pos hbig
    rw [hq]
    clear hbig hT hm hE hl hq
    go_enter Tryd.func21, Tryd.ntmps21
    go_wp2_with fail
    go_ret3
    exact ⟨_, rfl, OwnS.none_ _ _, Ext.refl _⟩
  · by_cases hne : l = []
    · subst hne
      clear hT hm hE hl hsmall
      go_enter Tryd.func21, Tryd.ntmps21
      go_wp2_with fail
      go_ret3
      exact ⟨_, rfl, OwnS.none_ _ _, Ext.refl _⟩
    · obtain ⟨t, x, wh, dg, en, pf, u1, u2, hs, hwl, hxl, htl, hts, hhs, htp, hhp, hdg, hu, hq⟩ := open_parts l hsmall hne
      have HCS : Hid (∀ W : World, Calls Tryd.prog 32 #[str l, .string ⟨#[10]⟩] W fun e w' => e = .returned (.tuple #[str wh, .bool en]) ∧ w' = W) := Lib.hid (fun W => by
        have := Tryd.strings_CutSuffix ⟨l.toArray⟩ ⟨#[10]⟩ W (by rw [size_str]; omega)
        rw [← hts, ← hhs]
        exact this)
      have HCP : Hid (∀ W : World, Calls Tryd.prog 33 #[str x, .string ⟨#[115, 117, 109, 32]⟩] W fun e w' => e = .returned (.tuple #[str dg, .bool pf]) ∧ w' = W) := Lib.hid (fun W => by
        have := Tryd.strings_CutPrefix ⟨x.toArray⟩ ⟨#[115, 117, 109, 32]⟩ W
        rw [← htp, ← hhp]
        exact this)
      have HSP := Lib.hid (fun W h => split_any W 10 wh (by omega) h)
      rw [hs] at HSP
      have HU := Lib.hid (fun W h h' => unhex_any W dg (by omega) h h')
      rw [hu] at HU
      have HSUM := Lib.hid (fun W => sum_any W (l.take (wh.length - x.length)) (by rw [List.length_take]; omega))
      have HT := Lib.hid hT
      have HM := Lib.hid hm
      have HE := Lib.hid hE
      have HLT := Lib.hid (show (t ++ [x]).length = t.length + 1 by simp)
      have hget : Hid (∀ (h : t.length < (t ++ [x]).length), (t ++ [x])[t.length] = x) := Lib.hid (fun h => by simp)
      have HTK := Lib.hid (show (t ++ [x]).take t.length = t by simp)
      have hb : (l == ([] : List UInt8)) = false := by rw [beq_eq_false_iff_ne]; exact hne
      have h1 : ¬ (33554432 : Int) < (l.length : Int) := by omega
      have hm1 : t.length ≤ 33554432 := by omega
      have hw1 : wh.length ≤ 33554432 := by omega
      have hd1 : (x.length : Int) ≤ (wh.length : Int) := by omega
      have hd2 : (wh.length : Int) - (x.length : Int) = ((wh.length - x.length : Nat) : Int) := by omega
      have hd3 : wh.length - x.length ≤ l.length := by omega
      clear hT hm hE hl hts hhs htp hhp hu hs hdg htl
      generalize openS l = q at *
      generalize fnv (l.take (wh.length - x.length)) = fv at *
      generalize unhexS dg = uu at *
      have HW := Lib.hid (open_cases t q en pf u1 u2 fv hq)
      clear hq
      go_enter Tryd.func21, Tryd.ntmps21
      go_wp2_with fail
      refine (HCS.out _).mono ?_
      rintro e w1 ⟨rfl, rfl⟩
      go_wp2_with fail
      refine (HSP.out _ (HM.out)).mono ?_
      rintro e w1 ⟨v1, rfl, ho1, hx1⟩
      have HX1 := Lib.hid hx1; clear hx1
      have HO1 := Lib.hid ho1
      obtain ⟨A, c, hv, hc, _, hcell⟩ := ho1.arr.open
      subst hv
      obtain ⟨b, o, rfl, _, hcell⟩ := hcell (by rw [HLT.out]; omega)
      have hx := hcell t.length (by rw [HLT.out]; omega)
      rw [hget.out] at hx
      rw [HLT.out] at HO1 hc ⊢
      have hc' : t.length ≤ c := by omega
      clear hc
      clear hcell ho1
      go_wp2_with fail
      refine (HCP.out _).mono ?_
      rintro e w2 ⟨rfl, rfl⟩
      go_wp2_with fail
      refine (HU.out _ (HT.out.ext HX1.out) (HE.out.ext HX1.out)).mono ?_
      rintro e w3 ⟨rfl, hx3⟩
      have HX3 := Lib.hid hx3
      have HX4 := Lib.hid (HX1.out.trans hx3)
      have hx' := hx3.keep hx
      clear hx hx3
      rcases HW.out with ⟨rfl, rfl⟩ | ⟨rfl, rfl, rfl⟩ | ⟨rfl, rfl, he, rfl⟩ | ⟨rfl, rfl, rfl, he, rfl⟩ | ⟨rfl, rfl, rfl, rfl, rfl⟩
      · clear HW
        go_wp2_with fail
        go_ret3
        exact ⟨_, rfl, OwnS.none_ _ _, HX4.out⟩
      · clear HW
        go_wp2_with fail
        go_ret3
        exact ⟨_, rfl, OwnS.none_ _ _, HX4.out⟩
      · clear HW
        go_wp2_with fail
        go_ret3
        exact ⟨_, rfl, OwnS.none_ _ _, HX4.out⟩
      · clear HW
        go_wp2_with fail
        refine (HSUM.out _).mono ?_
        rintro e w4 ⟨rfl, rfl⟩
        go_wp2_with fail
        go_ret3
        exact ⟨_, rfl, OwnS.none_ _ _, HX4.out⟩
      · clear HW
        go_wp2_with fail
        refine (HSUM.out _).mono ?_
        rintro e w4 ⟨rfl, rfl⟩
        go_wp2_with fail
        go_ret3
        have HF := (HO1.out.ext HX3.out)
        obtain ⟨A', c', hv, ho⟩ := ROwn.take HF t.length (by simp)
        injection hv with hv1 hv2 hv3
        subst hv1 hv3
        rw [← List.map_take, HTK.out] at ho
        exact ⟨_, rfl, ho, HX4.out⟩
end Big
end Go.Proofs.YtbmmnpggadakdaaDoor
