import Derived.Test.YtplmldkfgeiklaaGreatDoorM4
namespace Go.Proofs.YtplmldkfgeiklaaGreatDoor
namespace Big
open Go.RowKit

theorem rcmp_any (w : World) (v u : Value) (xs ys : List Nat) (h : Arr w v xs) (h' : Arr w u ys) (hn : xs.length ≤ 1073741824) (hn' : ys.length ≤ 1073741824) :
    Calls Tryz.prog 123 #[v, u] w fun e w' => e = .returned (.int .i64 (cmpI (val xs) (val ys))) ∧ w = w' := by
  have HA := Lib.hid h
  have HB := Lib.hid h'
  obtain ⟨hok, A, c, rfl, hc, hm, hcell⟩ := h.open
  obtain ⟨hok', A', c', rfl, hc', hm', hcell'⟩ := h'.open
  have hdx : ∀ k, xs.length ≤ k → ys.length ≤ k → val (xs.drop k) = val (ys.drop k) := fun k h1 h2 => by
    rw [List.drop_eq_nil_of_le h1, List.drop_eq_nil_of_le h2]
  have HD := Lib.hid hdx
  clear h h' hcell hcell' hm hm' hc hc' hdx
  rcases Nat.lt_or_ge xs.length ys.length with hlen | hlen
  all_goals
    go_enter Tryz.func123, Tryz.ntmps123
    go_wp2_with fail
    go_loop [5] (fun i => ∃ k : Nat, k ≤ 1073741824 ∧ i = .int .i64 ((k : Int) - 1) ∧ val (xs.drop k) = val (ys.drop k)) (fun i => (intOf i + 1).toNat)
    case atStart => first | exact ⟨_, hn', rfl, HD.out _ (by omega) (by omega)⟩ | exact ⟨_, hn, rfl, HD.out _ (by omega) (by omega)⟩
    case round =>
      obtain ⟨k, hk, rfl, hv⟩ := hrel
      have HV := Lib.hid hv; clear hv
      rcases Nat.eq_zero_or_pos k with h0 | h0
      · subst h0
        have HE := Lib.hid (cmpI_eq (show val xs = val ys from HV.out))
        go_wp2_with fail
        go_ret
        exact ⟨congrArg (fun z => Ending.returned (.int .i64 z)) HE.out.symm, rfl⟩
      · obtain ⟨m, rfl⟩ : ∃ m, k = m + 1 := ⟨k - 1, by omega⟩
        have HX := Lib.hid (rat_any w _ xs (m : Int) HA.out (by omega))
        have HY := Lib.hid (rat_any w _ ys (m : Int) HB.out (by omega))
        rw [Int.toNat_natCast] at HX HY
        have HL := Lib.hid (digit_lt hok m HV.out)
        have HG := Lib.hid (digit_lt hok' m HV.out.symm)
        have HE := Lib.hid (fun he => digit_eq (xs := xs) (ys := ys) m HV.out he)
        obtain ⟨x, hxe⟩ : ∃ x, xs.getD m 0 = x := ⟨_, rfl⟩
        obtain ⟨y, hye⟩ : ∃ y, ys.getD m 0 = y := ⟨_, rfl⟩
        rw [hxe] at HX HL HG HE
        rw [hye] at HY HL HG HE
        clear hxe hye
        rcases Nat.lt_trichotomy x y with hxy | rfl | hxy
        · have HC := Lib.hid (cmpI_lt (HL.out hxy))
          go_wp2_with fail
          refine HX.out.mono ?_; rintro e w' ⟨rfl, rfl⟩
          go_wp2_with fail
          refine HY.out.mono ?_; rintro e w' ⟨rfl, rfl⟩
          go_wp2_with fail
          go_ret
          exact ⟨congrArg (fun z => Ending.returned (.int .i64 z)) HC.out.symm, rfl⟩
        · have HE2 := Lib.hid (HE.out rfl)
          go_wp2_with fail
          refine HX.out.mono ?_; rintro e w' ⟨rfl, rfl⟩
          go_wp2_with fail
          refine HY.out.mono ?_; rintro e w' ⟨rfl, rfl⟩
          go_wp2_with fail
          refine HX.out.mono ?_; rintro e w' ⟨rfl, rfl⟩
          go_wp2_with fail
          refine HY.out.mono ?_; rintro e w' ⟨rfl, rfl⟩
          go_wp2_with fail
          go_round
          case rel => exact ⟨m, by omega, rfl, HE2.out⟩
          case measure => simp [intOf]
        · have HC := Lib.hid (cmpI_gt (HG.out hxy))
          go_wp2_with fail
          refine HX.out.mono ?_; rintro e w' ⟨rfl, rfl⟩
          go_wp2_with fail
          refine HY.out.mono ?_; rintro e w' ⟨rfl, rfl⟩
          go_wp2_with fail
          refine HX.out.mono ?_; rintro e w' ⟨rfl, rfl⟩
          go_wp2_with fail
          refine HY.out.mono ?_; rintro e w' ⟨rfl, rfl⟩
          go_wp2_with fail
          go_ret
          exact ⟨congrArg (fun z => Ending.returned (.int .i64 z)) HC.out.symm, rfl⟩
end Big
end Go.Proofs.YtplmldkfgeiklaaGreatDoor
/- More words: structs of two cells in a block of the call's own. -/
namespace Go.Proofs.YtplmldkfgeiklaaGreatDoor
namespace Big
open Go.RowKit
theorem two_set' {w : World} {g : Nat} {t : TypeId} {a b : Value} (h : Blk w g t #[a, b]) (a' b' : Value) :
    (w.setCell ⟨g, 0, none⟩ a').cell? ⟨g, 0, none⟩ = some a' ∧ ((w.setCell ⟨g, 0, none⟩ a').setCell ⟨g, 1, none⟩ b').cell? ⟨g, 1, none⟩ = some b' :=
  ⟨(h.set_ 0 a').cell 0, ((h.set_ 0 a').set_ 1 b').cell 1⟩
theorem two_set {w : World} {g : Nat} {t : TypeId} {a b : Value} (h : Blk w g t #[a, b]) (a' b' : Value) :
    ((w.setCell ⟨g, 0, none⟩ a').setCell ⟨g, 1, none⟩ b').cell? ⟨g, 0, none⟩ = some a' ∧ ((w.setCell ⟨g, 0, none⟩ a').setCell ⟨g, 1, none⟩ b').cell? ⟨g, 1, none⟩ = some b' :=
  ⟨((h.set_ 0 a').set_ 1 b').cell 0, ((h.set_ 0 a').set_ 1 b').cell 1⟩
end Big
end Go.Proofs.YtplmldkfgeiklaaGreatDoor
namespace Go.Proofs.YtplmldkfgeiklaaGreatDoor
namespace Big
open Go.RowKit

/-- v is the integer z, its digits none of them zero at the top, in memory from B on. -/
def IsInt (B : Nat) (w : World) (v : Value) (z : Int) : Prop := ∃ m, v = .agg #[.bool (decide (z < 0)), m] ∧ Own B w m (limbs z.natAbs)
/-- v reads as the integer z. -/
def ArrInt (w : World) (v : Value) (z : Int) : Prop := ∃ m, v = .agg #[.bool (decide (z < 0)), m] ∧ Arr w m (limbs z.natAbs)
section
variable {w w' : World} {v : Value} {z : Int} {B B' : Nat}
theorem IsInt.ext (h : IsInt B w v z) (hb : Ext w w') : IsInt B w' v z := by
  obtain ⟨m, h1, h2⟩ := h
  exact ⟨m, h1, h2.ext hb⟩
theorem IsInt.mono (h : IsInt B w v z) (hB : B' ≤ B) : IsInt B' w v z := by
  obtain ⟨m, h1, h2⟩ := h
  exact ⟨m, h1, h2.mono hB⟩
theorem IsInt.far (h : IsInt B w v z) {p : Addr} (hp : p.block < B) (u : Value) : IsInt B (w.setCell p u) v z := by
  obtain ⟨m, h1, h2⟩ := h
  exact ⟨m, h1, h2.far hp u⟩
theorem IsInt.arr (h : IsInt B w v z) : ArrInt w v z := by
  obtain ⟨m, h1, h2⟩ := h
  exact ⟨m, h1, h2.arr⟩
theorem ArrInt.ext (h : ArrInt w v z) (hb : Ext w w') : ArrInt w' v z := by
  obtain ⟨m, h1, h2⟩ := h
  exact ⟨m, h1, h2.ext hb⟩
end
def sgn (neg : Bool) (n : Nat) : Int := if neg then -(n : Int) else n
theorem natAbs_sgn (neg : Bool) (n : Nat) : (sgn neg n).natAbs = n := by unfold sgn; split <;> omega
theorem sgn_neg (neg : Bool) (n : Nat) : decide (sgn neg n < 0) = (neg && decide (0 < n)) := by
  unfold sgn
  cases neg <;> simp

theorem len_pos (n : Nat) : decide (0 < (limbs n).length) = decide (0 < n) := by
  rcases Nat.eq_zero_or_pos n with h | h
  · subst h; rfl
  · have : 0 < (limbs n).length := by rw [limbs_pos n (by omega)]; simp
    simp [h, this]
theorem sgn_true (n : Nat) : decide (0 < (limbs n).length) = decide (sgn true n < 0) := by rw [len_pos, sgn_neg]; rfl
theorem sgn_false (n : Nat) : false = decide (sgn false n < 0) := by rw [sgn_neg]; rfl

/-- A struct of a sign and digits that has been laid in a block of the call's own. -/
theorem IsInt.laid {w w1 : World} {g : Nat} {t : TypeId} {a b m : Value} {bb neg : Bool} {n B : Nat} (_hb : Blk w1 g t #[a, b]) (ho : Own B w1 m (limbs n)) (hg : g < B) (hs : bb = decide (sgn neg n < 0)) (he : Ext w w1) (hw : w.heap.size ≤ g) :
    IsInt w.heap.size ((w1.setCell ⟨g, 0, none⟩ (.bool bb)).setCell ⟨g, 1, none⟩ m) (.agg #[.bool bb, m]) (sgn neg n) ∧ Ext w ((w1.setCell ⟨g, 0, none⟩ (.bool bb)).setCell ⟨g, 1, none⟩ m) := by
  refine ⟨⟨m, by rw [hs], ?_⟩, (he.setCell hw _).setCell hw _⟩
  rw [natAbs_sgn]
  exact ((ho.far (p := ⟨g, 0, none⟩) hg _).far (p := ⟨g, 1, none⟩) hg _).mono (by omega)
/-- An integer that has been stored in a block of the call's own. -/
theorem IsInt.stored {w w1 : World} {g B : Nat} {t : TypeId} {a b : Value} {bb : Bool} {m : Value} {z : Int} (_hb : Blk w1 g t #[a, b]) (hi : IsInt B w1 (.agg #[.bool bb, m]) z) (hg : g < B) (he : Ext w w1) (hw : w.heap.size ≤ g) :
    IsInt w.heap.size ((w1.setCell ⟨g, 0, none⟩ (.bool bb)).setCell ⟨g, 1, none⟩ m) (.agg #[.bool bb, m]) z ∧ Ext w ((w1.setCell ⟨g, 0, none⟩ (.bool bb)).setCell ⟨g, 1, none⟩ m) :=
  ⟨((hi.far (p := ⟨g, 0, none⟩) hg _).far (p := ⟨g, 1, none⟩) hg _).mono (by omega), (he.setCell hw _).setCell hw _⟩

theorem rnat_any (w : World) (neg : Bool) (v : Value) (xs : List Nat) (h : Arr w v xs) (hn : xs.length ≤ 1073741824) :
    Calls Tryz.prog 54 #[.bool neg, v] w fun e w' => ∃ v', e = .returned v' ∧ IsInt w.heap.size w' v' (sgn neg (val xs)) ∧ Ext w w' := by
  have HT := Lib.hid (fun W hx => rtrim_any W v xs (h.ext hx) hn)
  have HS1 := Lib.hid (sgn_true (val xs))
  have HS2 := Lib.hid (sgn_false (val xs))
  clear h
  cases neg
  · go_enter Tryz.func54, Tryz.ntmps54
    go_wp2_with fail
    refine (HT.out _ ((Ext.refl w).alloc _)).mono ?_
    rintro e w' ⟨v', rfl, ho, hx⟩
    have HO := Lib.hid ho
    obtain ⟨A, c, hv, _⟩ := ho.2
    rw [List.length_map] at hv
    subst hv
    clear ho
    have hbk := (Blk.new w 24 #[Value.bool false, Value.slice none 0 0]).ext hx
    have hc0 : w'.cell? ⟨w.heap.size, 0, none⟩ = some (.bool false) := hbk.cell 0
    have hc1 : w'.cell? ⟨w.heap.size, 1, none⟩ = some (.slice none 0 0) := hbk.cell 1
    have hf0 := hbk.frozen 0
    have hf1 := hbk.frozen 1
    have hz := hbk.lt
    have HX := Lib.hid hx
    have HB := Lib.hid hbk
    clear hx hbk
    go_wp2_with fail
    obtain ⟨hr0, hr1⟩ := two_set' HB.out (.bool false) (.slice A (limbs (val xs)).length c)
    refine bodyPost_ret (v := .agg #[.bool false, .slice A (limbs (val xs)).length c]) (by simp [results, Tryz.results54, go_sem, hr0, hr1]) rfl ?_
    exact ⟨_, rfl, IsInt.laid HB.out HO.out (by simp) HS2.out (((Ext.refl w).alloc _).trans HX.out) (Nat.le_refl _)⟩
  · go_enter Tryz.func54, Tryz.ntmps54
    go_wp2_with fail
    refine (HT.out _ ((Ext.refl w).alloc _)).mono ?_
    rintro e w' ⟨v', rfl, ho, hx⟩
    have HO := Lib.hid ho
    obtain ⟨A, c, hv, _⟩ := ho.2
    rw [List.length_map] at hv
    subst hv
    clear ho
    have hbk := (Blk.new w 24 #[Value.bool false, Value.slice none 0 0]).ext hx
    have hc0 : w'.cell? ⟨w.heap.size, 0, none⟩ = some (.bool false) := hbk.cell 0
    have hc1 : w'.cell? ⟨w.heap.size, 1, none⟩ = some (.slice none 0 0) := hbk.cell 1
    have hf0 := hbk.frozen 0
    have hf1 := hbk.frozen 1
    have hz := hbk.lt
    have HX := Lib.hid hx
    have HB := Lib.hid hbk
    clear hx hbk
    go_wp2_with fail
    obtain ⟨hr0, hr1⟩ := two_set' HB.out (.bool (decide (0 < (limbs (val xs)).length))) (.slice A (limbs (val xs)).length c)
    refine bodyPost_ret (v := .agg #[.bool (decide (0 < (limbs (val xs)).length)), .slice A (limbs (val xs)).length c]) (by simp [results, Tryz.results54, go_sem, hr0, hr1]) rfl ?_
    exact ⟨_, rfl, IsInt.laid HB.out HO.out (by simp) HS1.out (((Ext.refl w).alloc _).trans HX.out) (Nat.le_refl _)⟩
end Big
end Go.Proofs.YtplmldkfgeiklaaGreatDoor
namespace Go.Proofs.YtplmldkfgeiklaaGreatDoor
namespace Big
open Go.RowKit

theorem rsmall_any (w : World) (v : Value) (xs : List Nat) (m c : Nat) (h : Arr w v xs) (hn : xs.length ≤ 536870912) (hm : m < 4294967296) (hc : c < 4294967296) :
    Calls Tryz.prog 80 #[v, .int .u32 (m : Int), .int .u32 (c : Int)] w fun e w' => ∃ v', e = .returned v' ∧ Own w.heap.size w' v' (limbs (val xs * m + c)) ∧ Ext w w' := by
  have HA := Lib.hid h
  obtain ⟨hok, A, cap, rfl, hcap, hmx, hcell⟩ := h.open
  have HC := Lib.hid hcell
  clear h hcell hmx hcap
  go_enter Tryz.func80, Tryz.ntmps80
  go_wp2_with fail
  go_loopw [7, 8, 15] (fun out cy i wr => ∃ (k q : Nat) (ys : List Nat), k ≤ xs.length ∧ q < 4294967296 ∧ i = .int .i64 k ∧ cy = .int .u64 q ∧ ys.length = k ∧
      val ys + 4294967296 ^ k * q = val (xs.take k) * m + c ∧ Own w.heap.size wr out ys ∧ Ext w wr) (fun _ _ i _ => xs.length - (intOf i).toNat)
  case atStart => exact ⟨0, c, [], Nat.zero_le _, hc, rfl, rfl, rfl, by simp [val], Own.none_ _ _, Ext.refl w⟩
  case round =>
    obtain ⟨k, q, ys, hk, hq, rfl, rfl, hl, hv, hown, hext⟩ := hrel
    have HV := Lib.hid hv; clear hv
    have HL := Lib.hid hl; clear hl
    have hwr := hext.size
    by_cases hlt : k < xs.length
    · obtain ⟨b, o, rfl, hb, hcell⟩ := HC.out (by omega)
      have hx := (hext.cell hb).trans (hcell k hlt)
      clear hcell
      have hxm := hok.get k
      have HS := Lib.hid (small_step xs ys k m c q hlt HL.out HV.out)
      have hp := prod_le hxm hm
      obtain ⟨x, hxe⟩ : ∃ x, xs.getD k 0 = x := ⟨_, rfl⟩
      rw [hxe] at hx hxm hp HS
      clear hxe
      have hp' : (x : Int) * (m : Int) ≤ 18446744065119617025 := by rw [← Int.natCast_mul]; omega
      have hp0 : 0 ≤ (x : Int) * (m : Int) := by rw [← Int.natCast_mul]; omega
      have hy : (q + x * m) % 4294967296 < 4294967296 := Nat.mod_lt _ (by omega)
      have HY := Lib.hid hy; clear hy
      have HLIM := Lib.hid (show ys.length + [(q + x * m) % 4294967296].length ≤ 2147483648 by simp [HL.out]; omega)
      simp only [d32] at hx
      go_wp2_with (at_builtin; go_must (refine wpList_append32 rfl _ _ rfl rfl (hown.ext ((Ext.refl _).alloc _)) rfl (Arr.fresh1 _ ((q + x * m) % 4294967296) HY.out) HLIM.out (by simp; omega) ?_; intro v' w' hown' hgr hb))
      go_roundw
      case rel =>
        refine ⟨k + 1, (q + x * m) / 4294967296, _, by omega, Nat.div_lt_of_lt_mul (by omega), by go_num, by go_num, by simp [HL.out], HS.out, hown', (hext.alloc _).more hb⟩
      case measure => simp [intOf]; omega
    · obtain rfl : k = xs.length := by omega
      have HLIM := Lib.hid (show ys.length + [q].length ≤ 2147483648 by simp [HL.out]; omega)
      have hval : val (ys ++ [q]) = val xs * m + c := by
        rw [val_snoc, HL.out, HV.out, List.take_of_length_le (Nat.le_refl _)]
      have HVL := Lib.hid hval
      clear hval
      go_wp2_with (at_builtin; go_must (refine wpList_append32 rfl _ _ rfl rfl (hown.ext ((Ext.refl _).alloc _)) rfl (Arr.fresh1 _ q hq) HLIM.out (by simp; omega) ?_; intro v' w' hown' hgr hb))
      have HT := Lib.hid (rtrim_any _ _ _ hown'.arr (by simp [HL.out]; omega))
      rw [HVL.out] at HT
      refine HT.out.mono ?_
      rintro e w2 ⟨v2, rfl, ho, hx⟩
      go_wp2_with fail
      go_ret
      have he : Ext w w' := (hext.alloc _).more hb
      exact ⟨_, rfl, ho.mono he.size, he.trans hx⟩

theorem rof_any (w : World) (n : Nat) (h : n < 18446744073709551616) :
    Calls Tryz.prog 53 #[.int .u64 (n : Int)] w fun e w' => ∃ v', e = .returned v' ∧ Own w.heap.size w' v' (limbs n) ∧ Ext w w' := by
  have HN := Lib.hid h; clear h
  go_enter Tryz.func53, Tryz.ntmps53
  go_wp2_with fail
  have h1 : n % 4294967296 < 4294967296 := by omega
  have h2 : n / 4294967296 < 4294967296 := by have := HN.out; omega
  have HT := rtrim_any _ _ _ (Own.fresh2 w (n % 4294967296) (n / 4294967296) h1 h2).arr (by simp)
  have hv : val [n % 4294967296, n / 4294967296] = n := by simp [val]; omega
  rw [hv] at HT
  have e1 : Value.int .u32 ((n : Int) % 4294967296) = d32 (n % 4294967296) := rfl
  have e2 : Value.int .u32 ((n : Int) / 4294967296 % 4294967296) = d32 (n / 4294967296) := congrArg (Value.int .u32) (by have := HN.out; omega)
  rw [e1, e2]
  clear e1 e2 hv
  refine HT.mono ?_
  rintro e w2 ⟨v2, rfl, ho, hx⟩
  go_wp2_with fail
  go_ret
  have he : Ext w (w.alloc (.cells #[d32 (n % 4294967296), d32 (n / 4294967296)] 74)) := (Ext.refl w).alloc _
  exact ⟨_, rfl, ho.mono he.size, he.trans hx⟩

theorem of_any (w : World) (n : Nat) (h : n < 18446744073709551616) :
    Calls Tryz.prog 78 #[.int .u64 (n : Int)] w fun e w' => ∃ v', e = .returned v' ∧ Own w.heap.size w' v' (limbs n) ∧ Ext w w' := by
  have HN := Lib.hid h; clear h
  go_enter Tryz.func78, Tryz.ntmps78
  go_wp2_with fail
  have h1 : n % 4294967296 < 4294967296 := by omega
  have h2 : n / 4294967296 < 4294967296 := by have := HN.out; omega
  have HT := trim_any _ _ _ (Own.fresh2 w (n % 4294967296) (n / 4294967296) h1 h2).arr (by simp)
  have hv : val [n % 4294967296, n / 4294967296] = n := by simp [val]; omega
  rw [hv] at HT
  have e1 : Value.int .u32 ((n : Int) % 4294967296) = d32 (n % 4294967296) := rfl
  have e2 : Value.int .u32 ((n : Int) / 4294967296 % 4294967296) = d32 (n / 4294967296) := congrArg (Value.int .u32) (by have := HN.out; omega)
  rw [e1, e2]
  clear e1 e2 hv
  refine HT.mono ?_
  rintro e w2 ⟨v2, rfl, ho, hx⟩
  go_wp2_with fail
  go_ret
  have he : Ext w (w.alloc (.cells #[d32 (n % 4294967296), d32 (n / 4294967296)] 74)) := (Ext.refl w).alloc _
  exact ⟨_, rfl, ho.mono he.size, he.trans hx⟩
end Big
end Go.Proofs.YtplmldkfgeiklaaGreatDoor
