import Derived.Test.YtgopljllknbelaaGreatDoorM27
import Derived.Test.YtgopljllknbelaaGreatDoorM19
import Derived.Test.YtgopljllknbelaaGreatDoorM21
import Derived.Test.YtgopljllknbelaaGreatDoorM16
/- The program's reader: atom. -/
namespace Go.Proofs.YtgopljllknbelaaGreatDoor
namespace Big
open Go.RowKit
/-- A pushed leaf. -/
theorem mk_leaf {g : Nat} {ts : List Tok} {tv nv nv' : Value} {ns : List Nd} {w w' : World} {a k : Nat} {t : List UInt8} {r : Option Ex × Nat} (hr : r = (some (.leaf k t), a + 1)) (hk : KR g nv nv' w w') (h : RdP g w' ts (a + 1) (ns ++ [⟨(k : Int), 0, 0, 0, t⟩]) tv nv') : OpPost g ts tv ns nv r w (.returned (.bool true)) w' := OpPost.mkS hr hk h
set_option maxHeartbeats 4000000 in
set_option maxRecDepth 100000 in
theorem atom_any (g : Nat) (ts : List Tok) (tv : Value) (f a : Nat) (hs : ∀ a', a < a' → SumP g ts tv f a') (w : World) (ns : List Nd) (nv : Value) (h : RdP g w ts a ns tv nv) :
    Calls Tryz.prog 159 #[.pointer (some ⟨g, 0, none⟩)] w (OpPost g ts tv ns nv (pAtom (pSum ts f) ts a) w) := by
  have H := Lib.hid h
  have HS := Lib.hid hs
  have hb := h.blk
  have hn := h.row
  obtain ⟨A, c0, rfl, hcell⟩ := h.tok
  obtain ⟨A2, c2, rfl⟩ := hn.shape
  have hle := h.le
  have hmax := h.max
  have hfew := h.few
  obtain ⟨k0, k1, k2, f0, f1, f2, hg⟩ := hb.three'
  clear hb hn h hs
  obtain ⟨n, hnt⟩ : ∃ n, n = ts.length := ⟨_, rfl⟩
  rw [← hnt] at k0 hle hmax
  have HNT := Lib.hid hnt
  clear hnt
  rcases Nat.lt_or_ge a n with hlt | hge
  · have hlt2 : a < ts.length := by rw [← HNT.out]; exact hlt
    obtain ⟨b, rfl, hbg, _, hc⟩ := hcell (by omega)
    obtain ⟨q0, q1, q2⟩ := hc a hlt2
    have hI : ∀ p, pAtom p ts a = (if ts[a].kind = 3 then grpR p ts a
      else if ts[a].kind = 1 then (some (.leaf 1 ts[a].text), a + 1)
      else if funcK ts[a].text ≠ 0 then (match grpR p ts (a + 1) with | (none, b) => (none, b) | (some x, b) => (some (.un (funcK ts[a].text) 0 x), b))
      else if ts[a].text = [112, 105] then (some (.leaf 3 []), a + 1)
      else if ts[a].text = [101] then (some (.leaf 4 []), a + 1)
      else (some (.leaf 2 ts[a].text), a + 1)) := fun p => by
      have hs : isS ts a [40] = ((ts[a].kind == 3) && (ts[a].text == [40])) := by
        unfold isS
        rw [List.getElem?_eq_getElem hlt2]
      unfold pAtom
      rw [List.getElem?_eq_getElem hlt2]
      simp only
      by_cases h3 : ts[a].kind = 3
      · rw [if_pos h3, if_pos h3]
        unfold grpR
        rw [hs, h3]
        by_cases h4 : ts[a].text = [40]
        · rw [if_pos h4, h4]; rfl
        · rw [if_neg h4, if_neg (by simp [h4])]
      · rw [if_neg h3, if_neg h3]
        split
        · rfl
        · split
          · unfold grpR
            by_cases h5 : isS ts (a + 1) [40] = true
            · rw [if_pos h5, if_pos h5]
              rcases p (a + 1 + 1) with ⟨_ | x, b⟩
              · rfl
              · simp only
                by_cases h6 : isS ts b [41] = true
                · rw [if_pos h6, if_pos h6]
                · rw [if_neg h6, if_neg h6]
            · rw [if_neg h5, if_neg h5]
          · rfl
    have HP := Lib.hid (hI (pSum ts f))
    clear hI hcell hc
    generalize ts[a].kind = tk at *
    generalize ts[a].text = tx at *
    generalize ts[a].at_ = ta at *
    generalize hR : pAtom (pSum ts f) ts a = R at *
    clear hR
    have z1 : decide (n ≤ a) = false := decide_eq_false (by omega)
    have z2 : ¬ (n : Int) ≤ (a : Int) := by omega
    go_enter Tryz.func159, Tryz.ntmps159
    go_wp2_with fail
    go_region
    go_upto_region 3 with fail
    go_region
    obtain ⟨w1, hw1⟩ : ∃ w1, w1 = (w.alloc (.cells #[.int .i64 (tk : Int), .int .i64 (ta : Int), str tx] 79)).drew.drew := ⟨_, rfl⟩
    rw [← hw1]
    have hx1 : Ext w w1 := by rw [hw1]; exact (((Ext.refl w).alloc _).drew).drew
    have hb1 : Blk w1 w.heap.size 79 #[.int .i64 (tk : Int), .int .i64 (ta : Int), str tx] := by rw [hw1]; exact (Blk.new w _ _).drew.drew
    have HR1 := Lib.hid (H.out.keep hx1)
    have HX1 := Lib.hid hx1
    have HB1 := Lib.hid hb1
    obtain ⟨j0, j1, j2, _⟩ := hb1.three'
    have hblk1 := (H.out.keep hx1).blk
    obtain ⟨k0, k1, k2, f0, f1, f2, hg1⟩ := hblk1.three'
    clear hw1 hx1 hb1 hblk1 q0 q1 q2 z1 z2
    generalize hgt : w.heap.size = gt at *
    have HGT : Hid (g < gt) := Lib.hid hg
    clear hgt
    by_cases h3 : tk = 3
    · subst h3
      have HRG : Hid (R = grpR (pSum ts f) ts a) := Lib.hid (by rw [HP.out, if_pos rfl])
      have HGR := Lib.hid (group_any g ts _ f a (HS.out (a + 1) (by omega)) w1 ns _ HR1.out)
      clear HP HS
      go_wp2_with fail
      refine HGR.out.mono ?_
      intro e w2 hpost
      obtain ⟨r, hr⟩ : ∃ r, grpR (pSum ts f) ts a = r := ⟨_, rfl⟩
      obtain ⟨_ | x, b2⟩ := r
      · obtain ⟨nv1, rfl, hn, hk⟩ := hpost.none_ hr
        have HE := Lib.hid (And.intro (HRG.out.trans hr) (And.intro ((KR.of_ext HX1.out).trans hk) hn))
        clear hpost hr hn hk
        go_wp2_with fail
        go_ret
        exact OpPost.mkN HE.out.1 HE.out.2.1 HE.out.2.2
      · obtain ⟨nv1, rfl, hrd, hk⟩ := hpost.some_ hr
        have HE := Lib.hid (And.intro (HRG.out.trans hr) (And.intro ((KR.of_ext HX1.out).trans hk) hrd))
        clear hpost hr hrd hk
        go_wp2_with fail
        go_ret
        exact OpPost.mkS HE.out.1 HE.out.2.1 HE.out.2.2
    · have h3b : ((tk : Int) == 3) = false := by rw [beq_eq_false_iff_ne]; omega
      have hw1 : IntKind.i64.wrap ((a : Int) + 1) = (a : Int) + 1 := IntWalk.i64_in _ (by omega)
      have HP2 : Hid (R = (if tk = 1 then (some (.leaf 1 tx), a + 1)
          else if funcK tx ≠ 0 then (match grpR (pSum ts f) ts (a + 1) with | (none, b) => (none, b) | (some x, b) => (some (.un (funcK tx) 0 x), b))
          else if tx = [112, 105] then (some (.leaf 3 []), a + 1)
          else if tx = [101] then (some (.leaf 4 []), a + 1)
          else (some (.leaf 2 tx), a + 1))) := Lib.hid (by rw [HP.out, if_neg h3])
      clear HP h3
      go_upto_region 7 with fail
      have hst := HR1.out.step hlt2
      obtain ⟨w2, hw2⟩ : ∃ w2, w2 = w1.setCell ⟨g, 1, none⟩ (.int .i64 ((a : Int) + 1)) := ⟨_, rfl⟩
      rw [← hw2] at hst ⊢
      have hb2 : Blk w2 gt 79 #[.int .i64 (tk : Int), .int .i64 (ta : Int), str tx] := by
        rw [hw2]
        exact HB1.out.far (p := ⟨g, 1, none⟩) (by show gt ≠ g; have := HGT.out; omega) _
      have HR2 := Lib.hid hst.1
      have HK2 := Lib.hid ((KR.of_ext HX1.out).trans hst.2)
      obtain ⟨j0, j1, j2, _⟩ := hb2.three'
      have HFN := Lib.hid (function_any w2 tx)
      clear hst hw2 hb2 k0 k1 k2 f0 f1 f2
      generalize hfk : funcK tx = fk at *
      go_wp2_with fail
      refine HFN.out.mono ?_
      rintro e w3 ⟨rfl, rfl⟩
      by_cases h1 : tk = 1
      · subst h1
        have HRG : Hid (R = (some (.leaf 1 tx), a + 1)) := Lib.hid (by rw [HP2.out, if_pos rfl])
        have HA := Lib.hid (add_any g w2 ts (a + 1) ns _ _ ⟨1, 0, 0, 0, tx⟩ HR2.out (by omega))
        simp only [ndV] at HA
        clear HP2
        go_wp2_with fail
        refine HA.out.mono ?_
        rintro e w4 ⟨nv2, rfl, hk4, hr4⟩
        have HE := Lib.hid (And.intro (HK2.out.trans hk4) hr4)
        clear hk4 hr4
        go_wp2_with fail
        go_ret
        exact mk_leaf HRG.out HE.out.1 HE.out.2
      · have h1b : ((tk : Int) == 1) = false := by rw [beq_eq_false_iff_ne]; omega
        by_cases hf0 : fk = 0
        · have hfb : ((fk : Int) != 0) = false := by rw [hf0]; rfl
          have HP3 : Hid (R = (if tx = [112, 105] then (some (.leaf 3 []), a + 1)
            else if tx = [101] then (some (.leaf 4 []), a + 1)
            else (some (.leaf 2 tx), a + 1))) := Lib.hid (by rw [HP2.out, if_neg h1, if_neg (by omega)])
          clear HP2 h1 hf0 hfk
          by_cases hpi : tx = [112, 105]
          · have hpb : (tx == [112, 105]) = true := by rw [beq_iff_eq]; exact hpi
            have HRG : Hid (R = (some (.leaf 3 []), a + 1)) := Lib.hid (by rw [HP3.out, if_pos hpi])
            have HA := Lib.hid (add_any g w2 ts (a + 1) ns _ _ ⟨3, 0, 0, 0, []⟩ HR2.out (by omega))
            simp only [ndV] at HA
            rw [show str [] = .string ⟨#[]⟩ from rfl] at HA
            clear HP3 hpi
            go_wp2_with fail
            refine HA.out.mono ?_
            rintro e w4 ⟨nv2, rfl, hk4, hr4⟩
            have HE := Lib.hid (And.intro (HK2.out.trans hk4) hr4)
            clear hk4 hr4
            go_wp2_with fail
            go_ret
            exact mk_leaf HRG.out HE.out.1 HE.out.2
          · have hpb : (tx == [112, 105]) = false := by rw [beq_eq_false_iff_ne]; exact hpi
            by_cases he : tx = [101]
            · have heb : (tx == [101]) = true := by rw [beq_iff_eq]; exact he
              have HRG : Hid (R = (some (.leaf 4 []), a + 1)) := Lib.hid (by rw [HP3.out, if_neg hpi, if_pos he])
              have HA := Lib.hid (add_any g w2 ts (a + 1) ns _ _ ⟨4, 0, 0, 0, []⟩ HR2.out (by omega))
              simp only [ndV] at HA
              rw [show str [] = .string ⟨#[]⟩ from rfl] at HA
              clear HP3 hpi he
              go_wp2_with fail
              refine HA.out.mono ?_
              rintro e w4 ⟨nv2, rfl, hk4, hr4⟩
              have HE := Lib.hid (And.intro (HK2.out.trans hk4) hr4)
              clear hk4 hr4
              go_wp2_with fail
              go_ret
              exact mk_leaf HRG.out HE.out.1 HE.out.2
            · have heb : (tx == [101]) = false := by rw [beq_eq_false_iff_ne]; exact he
              have HRG : Hid (R = (some (.leaf 2 tx), a + 1)) := Lib.hid (by rw [HP3.out, if_neg hpi, if_neg he])
              have HA := Lib.hid (add_any g w2 ts (a + 1) ns _ _ ⟨2, 0, 0, 0, tx⟩ HR2.out (by omega))
              simp only [ndV] at HA
              clear HP3 hpi he
              go_wp2_with fail
              refine HA.out.mono ?_
              rintro e w4 ⟨nv2, rfl, hk4, hr4⟩
              have HE := Lib.hid (And.intro (HK2.out.trans hk4) hr4)
              clear hk4 hr4
              go_wp2_with fail
              go_ret
              exact mk_leaf HRG.out HE.out.1 HE.out.2
        · have hfb : ((fk : Int) != 0) = true := by rw [bne_iff_ne]; omega
          have HP3 : Hid (R = (match grpR (pSum ts f) ts (a + 1) with | (none, b) => (none, b) | (some x, b) => (some (.un fk 0 x), b))) := Lib.hid (by rw [HP2.out, if_neg h1, if_pos hf0])
          have HGR := Lib.hid (group_any g ts _ f (a + 1) (HS.out (a + 1 + 1) (by omega)) w2 ns _ HR2.out)
          have hgp : PGood ts (a + 1) (grpR (pSum ts f) ts (a + 1)) := by
            intro hle1
            have hp := pSum_good ts f
            unfold grpR
            split
            · rename_i hs1
              have hl1 := isS_lt hs1
              have h2 := hp (a + 1 + 1) (by omega)
              split
              · rename_i b3 hb3
                rw [hb3] at h2
                simp only at h2 ⊢
                exact ⟨by omega, h2.2.1, fun x hx => by cases hx⟩
              · rename_i x b3 hb3
                rw [hb3] at h2
                have h4 := h2.2.2 x rfl
                simp only at h2 h4 ⊢
                split
                · rename_i hs2
                  have := isS_lt hs2
                  simp only
                  refine ⟨by omega, by omega, fun y hy => ?_⟩
                  have : x = y := Option.some.inj hy
                  subst this
                  omega
                · simp only
                  exact ⟨by omega, by omega, fun y hy => by cases hy⟩
            · exact ⟨Nat.le_refl _, hle1, fun x hx => by cases hx⟩
          have HGP := Lib.hid hgp
          clear HP2 h1 hf0 hfk hgp HS
          go_wp2_with fail
          refine HGR.out.mono ?_
          intro e w4 hpost
          obtain ⟨r, hr⟩ : ∃ r, grpR (pSum ts f) ts (a + 1) = r := ⟨_, rfl⟩
          obtain ⟨_ | x, b2⟩ := r
          · obtain ⟨nv1, rfl, hn, hk⟩ := hpost.none_ hr
            have HE := Lib.hid (And.intro (show R = (none, b2) by rw [HP3.out, hr]) (And.intro (HK2.out.trans hk) hn))
            clear hpost hr hn hk
            go_wp2_with fail
            go_ret
            exact OpPost.mkN HE.out.1 HE.out.2.1 HE.out.2.2
          · obtain ⟨nv1, rfl, hrd, hk⟩ := hpost.some_ hr
            have hgl := HGP.out (by omega)
            rw [hr] at hgl
            have hgx := hgl.2.2 x rfl
            simp only at hgl hgx
            have hxp := x.size_pos
            have HE := Lib.hid (And.intro (show R = (some (.un fk 0 x), b2) by rw [HP3.out, hr]) (HK2.out.trans hk))
            obtain ⟨n1, hn1⟩ : ∃ n1, n1 = (ns ++ flat ns.length x).length := ⟨_, rfl⟩
            have HN1 := Lib.hid hn1
            have HL4 : Hid (Calls Tryz.prog 107 #[.pointer (some ⟨g, 0, none⟩)] w4 fun e w' => e = .returned (.int .i64 ((n1 : Int) - 1)) ∧ w4 = w') := Lib.hid (by rw [hn1]; exact last_any g w4 ts b2 _ _ nv1 hrd)
            have HA := Lib.hid (add_any g w4 ts b2 _ _ nv1 ⟨(fk : Int), (n1 : Int) - 1, 0, 0, []⟩ hrd (by rw [nds_len]; omega))
            simp only [ndV] at HA
            rw [show str [] = .string ⟨#[]⟩ from rfl] at HA
            clear hpost hr hrd hk hn1 hgl hgx
            go_wp2_with fail
            refine HL4.out.mono ?_
            rintro e w5 ⟨rfl, rfl⟩
            go_wp2_with fail
            refine HA.out.mono ?_
            rintro e w5 ⟨nv2, rfl, hk5, hr5⟩
            have HF : Hid (RdP g w5 ts b2 (ns ++ flat ns.length (.un fk 0 x)) _ nv2) := Lib.hid (by
              have h6 := hr5
              rw [HN1.out, nds_len] at h6
              rw [flat, ← List.append_assoc, show ((ns.length + x.size - 1 : Nat) : Int) = ((ns.length + x.size : Nat) : Int) - 1 by omega]
              exact h6)
            have HK5 := Lib.hid (HE.out.2.trans hk5)
            clear hk5 hr5
            go_wp2_with fail
            go_ret
            exact OpPost.mkS HE.out.1 HK5.out HF.out
  · have HI : Hid (pAtom (pSum ts f) ts a = (none, a)) := Lib.hid (by
      unfold pAtom
      rw [List.getElem?_eq_none (by rw [← HNT.out]; exact hge)])
    have z1 : decide (n ≤ a) = true := decide_eq_true hge
    have z2 : (n : Int) ≤ (a : Int) := by omega
    clear hcell
    go_enter Tryz.func159, Tryz.ntmps159
    go_wp2_with fail
    go_region
    go_wp2_with fail
    go_ret
    exact OpPost.mkN HI.out (KR.of_ext (Ext.refl w).drew) ⟨_, H.out.keep (Ext.refl w).drew⟩
end Big
end Go.Proofs.YtgopljllknbelaaGreatDoor
/- The program's reader: power, minus, product, sum. -/
namespace Go.Proofs.YtgopljllknbelaaGreatDoor
namespace Big
open Go.RowKit
section
variable {p : Nat → Option Ex × Nat} {ts : List Tok} {a b n : Nat} {x : Ex}
theorem pPower_none (h : pAtom p ts a = (none, b)) : pPower p ts a = (none, b) := by unfold pPower; rw [h]
theorem pPower_plain (h : pAtom p ts a = (some x, b)) (h1 : isS ts b [94] = false) : pPower p ts a = (some x, b) := atom_up h h1
theorem pPower_neg (h : pAtom p ts a = (some x, b)) (h1 : isS ts b [94] = true) (h2 : isS ts (b + 1) [45] = true) (h3 : expo ts (b + 2) = some n) : pPower p ts a = (some (.un 10 (-(n : Int)) x), b + 3) := by
  unfold pPower; rw [h]; simp only; rw [if_pos h1, if_pos h2, h3]
theorem pPower_negbad (h : pAtom p ts a = (some x, b)) (h1 : isS ts b [94] = true) (h2 : isS ts (b + 1) [45] = true) (h3 : expo ts (b + 2) = none) : pPower p ts a = (none, b + 2) := by
  unfold pPower; rw [h]; simp only; rw [if_pos h1, if_pos h2, h3]
theorem pPower_pos (h : pAtom p ts a = (some x, b)) (h1 : isS ts b [94] = true) (h2 : isS ts (b + 1) [45] = false) (h3 : expo ts (b + 1) = some n) : pPower p ts a = (some (.un 10 (n : Int) x), b + 2) := by
  unfold pPower; rw [h]; simp only; rw [if_pos h1, if_neg (by rw [h2]; simp), h3]
theorem pPower_posbad (h : pAtom p ts a = (some x, b)) (h1 : isS ts b [94] = true) (h2 : isS ts (b + 1) [45] = false) (h3 : expo ts (b + 1) = none) : pPower p ts a = (none, b + 1) := by
  unfold pPower; rw [h]; simp only; rw [if_pos h1, if_neg (by rw [h2]; simp), h3]
theorem DigPost.some_ {w w' : World} {e : Ending} {r : Option Nat} (h : DigPost w r e w') (hr : r = some n) : e = .returned (.tuple #[.int .i64 (n : Int), .bool true]) ∧ Ext w w' := by subst hr; exact ⟨h.2, h.1⟩
theorem DigPost.none_ {w w' : World} {e : Ending} {r : Option Nat} (h : DigPost w r e w') (hr : r = none) : e = .returned (.tuple #[.int .i64 0, .bool false]) ∧ Ext w w' := by subst hr; exact ⟨h.2, h.1⟩
theorem flat_un_snoc (off k : Nat) (z : Int) : flat off (.un k z x) = flat off x ++ [⟨(k : Int), ((off + x.size - 1 : Nat) : Int), 0, z, []⟩] := rfl
/-- A node over the last operand has been added. -/
theorem un_added {g : Nat} {tv nv : Value} {ns : List Nd} {w : World} {k n1 : Nat} {z : Int} (hn : n1 = (ns ++ flat ns.length x).length) (h : RdP g w ts b ((ns ++ flat ns.length x) ++ [⟨(k : Int), (n1 : Int) - 1, 0, z, []⟩]) tv nv) : RdP g w ts b (ns ++ flat ns.length (.un k z x)) tv nv := by
  have hx := x.size_pos
  rw [hn, nds_len] at h
  rw [flat_un_snoc, ← List.append_assoc, show ((ns.length + x.size - 1 : Nat) : Int) = ((ns.length + x.size : Nat) : Int) - 1 by omega]
  exact h
end
set_option maxHeartbeats 4000000 in
set_option maxRecDepth 100000 in
theorem power_any (g : Nat) (ts : List Tok) (tv : Value) (f a : Nat) (hs : ∀ a', a < a' → SumP g ts tv f a') (w : World) (ns : List Nd) (nv : Value) (h : RdP g w ts a ns tv nv) :
    Calls Tryz.prog 138 #[.pointer (some ⟨g, 0, none⟩)] w (OpPost g ts tv ns nv (pPower (pSum ts f) ts a) w) := by
  have HAT := Lib.hid (atom_any g ts tv f a hs w ns nv h)
  have hga := pAtom_good (pSum_good ts f) a h.le
  have hfew := h.few
  have hmax := h.max
  clear h hs
  have hc94 : str [94] = .string ⟨#[94]⟩ := rfl
  have hc45 : str [45] = .string ⟨#[45]⟩ := rfl
  have HT94 := Lib.hid (fun W b n v h => take_any g W ts b n tv v [94] h)
  have HT45 := Lib.hid (fun W b n v h => take_any g W ts b n tv v [45] h)
  rw [hc94] at HT94
  rw [hc45] at HT45
  clear hc94 hc45
  go_enter Tryz.func138, Tryz.ntmps138
  go_wp2_with fail
  refine HAT.out.mono ?_
  intro e w1 hpost
  obtain ⟨r, hr⟩ : ∃ r, pAtom (pSum ts f) ts a = r := ⟨_, rfl⟩
  rw [hr] at hga
  obtain ⟨_ | x, b⟩ := r
  · obtain ⟨nv1, rfl, hn, hk⟩ := hpost.none_ hr
    have HE := Lib.hid (And.intro (pPower_none hr) (And.intro hk hn))
    clear hpost hr hn hk
    go_wp2_with fail
    go_ret
    exact OpPost.mkN HE.out.1 HE.out.2.1 HE.out.2.2
  · obtain ⟨nv1, rfl, hrd, hk⟩ := hpost.some_ hr
    have hgx := hga.2.2 x rfl
    have hgl := hga.2.1
    simp only at hgx hgl
    have HR := Lib.hid hr
    have HK := Lib.hid hk
    have HT := Lib.hid (HT94.out w1 b _ nv1 hrd)
    clear hpost hr hrd hk hga
    obtain ⟨u1, hu1⟩ : ∃ u, isS ts b [94] = u := ⟨_, rfl⟩
    rw [hu1] at HT
    cases u1
    · have hred : (if false = true then b + 1 else b) = b := rfl
      rw [hred] at HT
      have HD := Lib.hid (pPower_plain HR.out hu1)
      clear hred hu1
      go_wp2_with fail
      refine HT.out.mono ?_
      rintro e w2 ⟨rfl, hk2, hr2⟩
      have HE := Lib.hid (And.intro (HK.out.trans hk2) hr2)
      clear hk2 hr2
      go_wp2_with fail
      go_ret
      exact OpPost.mkS HD.out HE.out.1 HE.out.2
    · simp only [if_true] at HT
      have hlb := isS_lt hu1
      have HU1 := Lib.hid hu1
      clear hu1
      go_wp2_with fail
      refine HT.out.mono ?_
      rintro e w2 ⟨rfl, hk2, hr2⟩
      have HK2 := Lib.hid (HK.out.trans hk2)
      have HM := Lib.hid (HT45.out w2 (b + 1) _ nv1 hr2)
      clear hk2 hr2
      obtain ⟨u2, hu2⟩ : ∃ u, isS ts (b + 1) [45] = u := ⟨_, rfl⟩
      rw [hu2] at HM
      cases u2
      · have hred : (if false = true then b + 1 + 1 else b + 1) = b + 1 := rfl
        rw [hred] at HM
        have HU2 := Lib.hid hu2
        clear hred hu2
        go_wp2_with fail
        refine HM.out.mono ?_
        rintro e w3 ⟨rfl, hk3, hr3⟩
        have HK3 := Lib.hid (HK2.out.trans hk3)
        have HR3 := Lib.hid hr3
        have HDG := Lib.hid (digits_rd g w3 ts (b + 1) _ tv nv1 hr3)
        clear hk3 hr3
        go_wp2_with fail
        refine HDG.out.mono ?_
        intro e w4 hpost
        obtain ⟨r, hr⟩ : ∃ r, expo ts (b + 1) = r := ⟨_, rfl⟩
        cases r with
        | none =>
          obtain ⟨rfl, hx4⟩ := hpost.none_ hr
          have HE := Lib.hid (And.intro (pPower_posbad HR.out HU1.out HU2.out hr) (And.intro (HK3.out.trans (KR.of_ext hx4)) (HR3.out.keep hx4)))
          clear hpost hr hx4
          go_wp2_with fail
          go_ret
          exact OpPost.mkN HE.out.1 HE.out.2.1 ⟨_, HE.out.2.2⟩
        | some n =>
          obtain ⟨rfl, hx4⟩ := hpost.some_ hr
          have hn99 := expo_le hr
          have hlt1 := expo_lt hr
          have HPP := Lib.hid (pPower_pos HR.out HU1.out HU2.out hr)
          have hr4 := HR3.out.keep hx4
          have HK4 := Lib.hid (HK3.out.trans (KR.of_ext hx4))
          have HR4 := Lib.hid hr4
          obtain ⟨k0, k1, k2, f0, f1, f2, hg1⟩ := hr4.blk.three'
          have hwb : IntKind.i64.wrap (((b + 1 : Nat) : Int) + 1) = ((b + 1 : Nat) : Int) + 1 := IntWalk.i64_in _ (by omega)
          clear hpost hr hx4 hr4
          generalize hb1 : b + 1 = b1 at *
          go_upto_region 12 with fail
          have hst := HR4.out.step hlt1
          generalize w4.setCell ⟨g, 1, none⟩ (.int .i64 ((b1 : Int) + 1)) = w5 at *
          have HK5 := Lib.hid (HK4.out.trans hst.2)
          obtain ⟨n1, hn1⟩ : ∃ n1, n1 = (ns ++ flat ns.length x).length := ⟨_, rfl⟩
          have HN1 := Lib.hid hn1
          have HL : Hid (Calls Tryz.prog 107 #[.pointer (some ⟨g, 0, none⟩)] w5 fun e w' => e = .returned (.int .i64 ((n1 : Int) - 1)) ∧ w5 = w') := Lib.hid (by rw [hn1]; exact last_any g w5 ts (b1 + 1) _ _ nv1 hst.1)
          have HA := Lib.hid (add_any g w5 ts (b1 + 1) _ _ nv1 ⟨10, (n1 : Int) - 1, 0, (n : Int), []⟩ hst.1 (by rw [nds_len]; omega))
          simp only [ndV] at HA
          rw [show str [] = .string ⟨#[]⟩ from rfl] at HA
          clear hst hn1 k0 k1 k2 f0 f1 f2 hwb
          go_wp2_with fail
          refine HL.out.mono ?_
          rintro e w6 ⟨rfl, rfl⟩
          go_wp2_with fail
          refine HA.out.mono ?_
          rintro e w6 ⟨nv2, rfl, hk6, hr6⟩
          have HF := Lib.hid (And.intro (HK5.out.trans hk6) (un_added (k := 10) HN1.out hr6))
          have HQ : Hid (b1 + 1 = b + 2) := Lib.hid (by omega)
          clear hk6 hr6
          go_wp2_with fail
          go_ret
          exact OpPost.mkS HPP.out HF.out.1 (by rw [← HQ.out]; exact HF.out.2)
      · simp only [if_true] at HM
        have hlb2 := isS_lt hu2
        have HU2 := Lib.hid hu2
        clear hu2
        go_wp2_with fail
        refine HM.out.mono ?_
        rintro e w3 ⟨rfl, hk3, hr3⟩
        have HK3 := Lib.hid (HK2.out.trans hk3)
        have HR3 := Lib.hid hr3
        have HDG := Lib.hid (digits_rd g w3 ts (b + 1 + 1) _ tv nv1 hr3)
        clear hk3 hr3
        go_wp2_with fail
        refine HDG.out.mono ?_
        intro e w4 hpost
        obtain ⟨r, hr⟩ : ∃ r, expo ts (b + 1 + 1) = r := ⟨_, rfl⟩
        cases r with
        | none =>
          obtain ⟨rfl, hx4⟩ := hpost.none_ hr
          have HE := Lib.hid (And.intro (pPower_negbad HR.out HU1.out HU2.out hr) (And.intro (HK3.out.trans (KR.of_ext hx4)) (HR3.out.keep hx4)))
          clear hpost hr hx4
          go_wp2_with fail
          go_ret
          exact OpPost.mkN HE.out.1 HE.out.2.1 ⟨_, HE.out.2.2⟩
        | some n =>
          obtain ⟨rfl, hx4⟩ := hpost.some_ hr
          have hn99 := expo_le hr
          have hlt1 := expo_lt hr
          have HPP := Lib.hid (pPower_neg HR.out HU1.out HU2.out hr)
          have hr4 := HR3.out.keep hx4
          have HK4 := Lib.hid (HK3.out.trans (KR.of_ext hx4))
          have HR4 := Lib.hid hr4
          obtain ⟨k0, k1, k2, f0, f1, f2, hg1⟩ := hr4.blk.three'
          have hwb : IntKind.i64.wrap (((b + 1 + 1 : Nat) : Int) + 1) = ((b + 1 + 1 : Nat) : Int) + 1 := IntWalk.i64_in _ (by omega)
          obtain ⟨z, hz⟩ : ∃ z : Int, z = -(n : Int) := ⟨_, rfl⟩
          have hwn : IntKind.i64.wrap (-(n : Int)) = z := by rw [IntWalk.i64_in _ (by omega), hz]
          have HZ := Lib.hid hz
          clear hpost hr hx4 hr4 hz
          generalize hb1 : b + 1 + 1 = b1 at *
          go_upto_region 12 with fail
          have hst := HR4.out.step hlt1
          generalize w4.setCell ⟨g, 1, none⟩ (.int .i64 ((b1 : Int) + 1)) = w5 at *
          have HK5 := Lib.hid (HK4.out.trans hst.2)
          obtain ⟨n1, hn1⟩ : ∃ n1, n1 = (ns ++ flat ns.length x).length := ⟨_, rfl⟩
          have HN1 := Lib.hid hn1
          have HL : Hid (Calls Tryz.prog 107 #[.pointer (some ⟨g, 0, none⟩)] w5 fun e w' => e = .returned (.int .i64 ((n1 : Int) - 1)) ∧ w5 = w') := Lib.hid (by rw [hn1]; exact last_any g w5 ts (b1 + 1) _ _ nv1 hst.1)
          have HA := Lib.hid (add_any g w5 ts (b1 + 1) _ _ nv1 ⟨10, (n1 : Int) - 1, 0, z, []⟩ hst.1 (by rw [nds_len]; omega))
          simp only [ndV] at HA
          rw [show str [] = .string ⟨#[]⟩ from rfl] at HA
          clear hst hn1 k0 k1 k2 f0 f1 f2 hwb
          go_wp2_with fail
          refine HL.out.mono ?_
          rintro e w6 ⟨rfl, rfl⟩
          go_wp2_with fail
          refine HA.out.mono ?_
          rintro e w6 ⟨nv2, rfl, hk6, hr6⟩
          have HF := Lib.hid (And.intro (HK5.out.trans hk6) (un_added (k := 10) HN1.out hr6))
          have HQ : Hid (b1 + 1 = b + 3) := Lib.hid (by omega)
          clear hk6 hr6
          go_wp2_with fail
          go_ret
          exact OpPost.mkS HPP.out HF.out.1 (by rw [← HQ.out, ← HZ.out]; exact HF.out.2)
end Big
end Go.Proofs.YtgopljllknbelaaGreatDoor
/- The program's reader: minus, product, sum. -/
namespace Go.Proofs.YtgopljllknbelaaGreatDoor
namespace Big
open Go.RowKit
section
variable {p : Nat → Option Ex × Nat} {ts : List Tok} {a b : Nat} {x : Ex}
theorem M_no (h : isS ts a [45] = false) : minusRun ts ts.length a = 0 := minusRun_zero _ h
theorem M_yes (h : isS ts a [45] = true) : minusRun ts ts.length a = minusRun ts ts.length (a + 1) + 1 := by
  have hl := isS_lt h
  obtain ⟨n, hn⟩ : ∃ n, ts.length = n + 1 := ⟨ts.length - 1, by omega⟩
  rw [hn, minusRun, if_pos h, ← minusRun_more (n + 1) n (a + 1) (by omega) (by omega)]
theorem pMinus_none (h : pPower p ts (a + minusRun ts ts.length a) = (none, b)) : pMinus p ts a = (none, b) := by unfold pMinus; rw [h]
theorem pMinus_some (h : pPower p ts (a + minusRun ts ts.length a) = (some x, b)) : pMinus p ts a = (some (negs (minusRun ts ts.length a) x), b) := by unfold pMinus; rw [h]
end
set_option maxHeartbeats 4000000 in
set_option maxRecDepth 100000 in
theorem minus_any (g : Nat) (ts : List Tok) (tv : Value) (f a : Nat) (hs : ∀ a', a < a' → SumP g ts tv f a') (w : World) (ns : List Nd) (nv : Value) (h : RdP g w ts a ns tv nv) :
    Calls Tryz.prog 109 #[.pointer (some ⟨g, 0, none⟩)] w (OpPost g ts tv ns nv (pMinus (pSum ts f) ts a) w) := by
  have H := Lib.hid h
  have HS := Lib.hid hs
  have hfew := h.few
  have hmax := h.max
  have hle := h.le
  have hc45 : str [45] = .string ⟨#[45]⟩ := rfl
  have HT45 := Lib.hid (fun W b n v h => take_any g W ts b n tv v [45] h)
  rw [hc45] at HT45
  have hml := minusRun_le ts ts.length a hle
  generalize hM : minusRun ts ts.length a = M at *
  have HMM := Lib.hid hM
  clear hc45 h hs hM
  go_enter Tryz.func109, Tryz.ntmps109
  go_wp2_with fail
  go_loopg [3] (ts.length - a) (fun gh s3 wr => ∃ c : Nat, gh = ts.length - (a + c) ∧ s3 = .int .i64 (c : Int) ∧ RdP g wr ts (a + c) ns tv nv ∧ KR g nv nv w wr ∧ M = c + minusRun ts ts.length (a + c))
  case atStart => exact ⟨0, rfl, rfl, H.out, KR.of_ext (Ext.refl w), by rw [Nat.zero_add, Nat.add_zero]; exact HMM.out.symm⟩
  case round =>
    obtain ⟨c, hgg, rfl, hrd, hkr, hcm⟩ := hrel
    have HGG := Lib.hid hgg
    have HRD := Lib.hid hrd
    have HKR := Lib.hid hkr
    have HCM := Lib.hid hcm
    have hacl := hrd.le
    have HT := Lib.hid (HT45.out wr (a + c) ns nv hrd)
    clear hgg hrd hkr hcm
    obtain ⟨u1, hu1⟩ : ∃ u, isS ts (a + c) [45] = u := ⟨_, rfl⟩
    rw [hu1] at HT
    cases u1
    · have hred : (if false = true then a + c + 1 else a + c) = a + c := rfl
      rw [hred] at HT
      have HMC : Hid (M = c) := Lib.hid (by have := HCM.out; rw [M_no hu1] at this; omega)
      clear hred hu1
      go_wp2_with fail
      refine HT.out.mono ?_
      rintro e w2 ⟨rfl, hk2, hr2⟩
      have HK2 := Lib.hid (HKR.out.trans hk2)
      have HPW := Lib.hid (power_any g ts tv f (a + c) (fun a' h' => HS.out a' (by omega)) w2 ns nv hr2)
      have hgp := pPower_good (pSum_good ts f) (a + c) hacl
      clear hk2 hr2
      go_wp2_with fail
      refine HPW.out.mono ?_
      intro e w3 hpost
      obtain ⟨r, hr⟩ : ∃ r, pPower (pSum ts f) ts (a + c) = r := ⟨_, rfl⟩
      rw [hr] at hgp
      obtain ⟨_ | x, b⟩ := r
      · obtain ⟨nv1, rfl, hn, hk⟩ := hpost.none_ hr
        have HE := Lib.hid (And.intro (show pMinus (pSum ts f) ts a = (none, b) from pMinus_none (by rw [HMM.out, HMC.out]; exact hr)) (And.intro (HK2.out.trans hk) hn))
        clear hpost hr hn hk
        go_wp2_with fail
        go_ret
        exact OpPost.mkN HE.out.1 HE.out.2.1 HE.out.2.2
      · obtain ⟨nv1, rfl, hrd, hk⟩ := hpost.some_ hr
        have hgx := hgp.2.2 x rfl
        have hgl := hgp.2.1
        simp only at hgx hgl
        have HRES : Hid (pMinus (pSum ts f) ts a = (some (negs c x), b)) := Lib.hid (by
          have h1 := pMinus_some (a := a) (p := pSum ts f) (ts := ts) (b := b) (x := x) (by rw [HMM.out, HMC.out]; exact hr)
          rw [HMM.out, HMC.out] at h1
          exact h1)
        have HST : Hid (∃ nv', RdP g w3 ts b (ns ++ flat ns.length (negs 0 x)) tv nv' ∧ KR g nv nv' w w3) := Lib.hid ⟨nv1, hrd, HK2.out.trans hk⟩
        clear hpost hr hrd hk hgp
        go_wp2_with fail
        go_loopw [3] (fun s3 wr => ∃ k : Nat, k ≤ c ∧ s3 = .int .i64 (k : Int) ∧ ∃ nv', RdP g wr ts b (ns ++ flat ns.length (negs (c - k) x)) tv nv' ∧ KR g nv nv' w wr) (fun s3 _ => (intOf s3).toNat)
        case atStart => exact ⟨c, Nat.le_refl _, rfl, by rw [Nat.sub_self]; exact HST.out⟩
        case round =>
          obtain ⟨k, hkc, rfl, nv2, hrd, hkr⟩ := hrel
          have HKR3 := Lib.hid hkr
          by_cases hk0 : k = 0
          · subst hk0
            have HF := Lib.hid (And.intro hkr hrd)
            clear hrd hkr HST
            go_wp2_with fail
            go_ret
            exact OpPost.mkS HRES.out HF.out.1 HF.out.2
          · obtain ⟨n1, hn1⟩ : ∃ n1, n1 = (ns ++ flat ns.length (negs (c - k) x)).length := ⟨_, rfl⟩
            have HN1 := Lib.hid hn1
            have HL : Hid (Calls Tryz.prog 107 #[.pointer (some ⟨g, 0, none⟩)] wr fun e w' => e = .returned (.int .i64 ((n1 : Int) - 1)) ∧ wr = w') := Lib.hid (by rw [hn1]; exact last_any g wr ts b _ _ nv2 hrd)
            have HA := Lib.hid (add_any g wr ts b _ _ nv2 ⟨5, (n1 : Int) - 1, 0, 0, []⟩ hrd (by rw [nds_len, negs_size]; omega))
            simp only [ndV] at HA
            rw [show str [] = .string ⟨#[]⟩ from rfl] at HA
            have hkp : (0 : Int) < (k : Int) := by omega
            have hwk : IntKind.i64.wrap ((k : Int) - 1) = ((k - 1 : Nat) : Int) := by rw [IntWalk.i64_in _ (by omega)]; omega
            have HNE : Hid (negs (c - (k - 1)) x = .un 5 0 (negs (c - k) x)) := Lib.hid (by rw [show c - (k - 1) = (c - k) + 1 by omega, negs_succ])
            clear hrd hkr hn1 HST
            go_wp2_with fail
            refine HL.out.mono ?_
            rintro e w6 ⟨rfl, rfl⟩
            go_wp2_with fail
            refine HA.out.mono ?_
            rintro e w6 ⟨nv3, rfl, hk6, hr6⟩
            have HF := Lib.hid (And.intro (HKR3.out.trans hk6) (un_added (k := 5) HN1.out hr6))
            clear hk6 hr6
            go_wp2_with fail
            go_roundw
            case rel => exact ⟨k - 1, by omega, rfl, nv3, by rw [HNE.out]; exact HF.out.2, HF.out.1⟩
            case measure => simp [intOf]; omega
    · simp only [if_true] at HT
      have hlb := isS_lt hu1
      have HMC : Hid (M = (c + 1) + minusRun ts ts.length (a + (c + 1))) := Lib.hid (by have := HCM.out; rw [M_yes hu1] at this; rw [show a + (c + 1) = a + c + 1 by omega]; omega)
      have hwc : IntKind.i64.wrap ((c : Int) + 1) = (c : Int) + 1 := IntWalk.i64_in _ (by omega)
      clear hu1
      go_wp2_with fail
      refine HT.out.mono ?_
      rintro e w2 ⟨rfl, hk2, hr2⟩
      have HF := Lib.hid (And.intro (HKR.out.trans hk2) hr2)
      clear hk2 hr2
      go_wp2_with fail
      go_roundg (ts.length - (a + (c + 1)))
      case rel => exact ⟨c + 1, rfl, by go_num, HF.out.2, HF.out.1, HMC.out⟩
      case measure => rw [HGG.out]; omega
theorem enter_of {F : FuncId} {fn : Func} (hf : Tryz.prog.funcs[F]? = some fn) (h1 : (fn.name == "runtime.NumGoroutine") = false) (h2 : fn.body.isNone = false) (args : Array Value) (w : World) : (callFunc F args).run Tryz.prog w = .ok (.enter F args) w := by
  have h3 : ¬ fn.name = "runtime.NumGoroutine" := by
    intro h
    rw [h] at h1
    simp at h1
  have h4 : ¬ fn.body = none := by
    intro h
    rw [h] at h2
    cases h2
  simp [go_sem, callFunc, hf, h3, h4]
set_option maxRecDepth 100000 in
theorem product_any (g : Nat) (ts : List Tok) (tv : Value) (f a : Nat) (hs : ∀ a', a < a' → SumP g ts tv f a') (w : World) (ns : List Nd) (nv : Value) (h : RdP g w ts a ns tv nv) :
    Calls Tryz.prog 76 #[.pointer (some ⟨g, 0, none⟩)] w (OpPost g ts tv ns nv (pProd (pSum ts f) ts a) w) := by
  have HC := Lib.hid (chain_any g ts tv 109 (pMinus (pSum ts f) ts) [42] [47] 8 9 a (fun a' ha w ns nv h => minus_any g ts tv f a' (fun b hb => hs b (by omega)) w ns nv h) (pMinus_good (pSum_good ts f)) (enter_of Tryz.func109 (by kernel_rfl) (by kernel_rfl)) w ns nv h)
  rw [show str [42] = .string ⟨#[42]⟩ from rfl, show str [47] = .string ⟨#[47]⟩ from rfl] at HC
  have HD : Hid (chainP (pMinus (pSum ts f) ts) ts [42] [47] 8 9 a = pProd (pSum ts f) ts a) := Lib.hid rfl
  generalize chainP (pMinus (pSum ts f) ts) ts [42] [47] 8 9 a = r at *
  clear h hs
  go_enter Tryz.func76, Tryz.ntmps76
  go_wp2_with fail
  refine HC.out.mono ?_
  intro e w2 hpost
  clear HC
  obtain ⟨_ | x, b⟩ := r
  · obtain ⟨nv1, rfl, hn, hk⟩ := hpost.none_ rfl
    have HE := Lib.hid (And.intro hk hn)
    clear hpost hn hk
    go_wp2_with fail
    go_ret
    exact OpPost.mkN HD.out.symm HE.out.1 HE.out.2
  · obtain ⟨nv1, rfl, hrd, hk⟩ := hpost.some_ rfl
    have HE := Lib.hid (And.intro hk hrd)
    clear hpost hrd hk
    go_wp2_with fail
    go_ret
    exact OpPost.mkS HD.out.symm HE.out.1 HE.out.2
set_option maxRecDepth 100000 in
/-- sum, with fuel enough. -/
theorem sum_any (g : Nat) (ts : List Tok) (tv : Value) (f : Nat) : ∀ a, ts.length < a + f → SumP g ts tv f a := by
  induction f with
  | zero => intro a ha w ns nv h; have := h.le; omega
  | succ f ih =>
    intro a ha w ns nv h
    have HC := Lib.hid (chain_any g ts tv 76 (pProd (pSum ts f) ts) [43] [45] 6 7 a (fun a' ha' w ns nv h => product_any g ts tv f a' (fun b hb => ih b (by omega)) w ns nv h) (pProd_good (pSum_good ts f)) (enter_of Tryz.func76 (by kernel_rfl) (by kernel_rfl)) w ns nv h)
    rw [show str [43] = .string ⟨#[43]⟩ from rfl, show str [45] = .string ⟨#[45]⟩ from rfl] at HC
    have HD : Hid (chainP (pProd (pSum ts f) ts) ts [43] [45] 6 7 a = pSum ts (f + 1) a) := Lib.hid rfl
    generalize chainP (pProd (pSum ts f) ts) ts [43] [45] 6 7 a = r at *
    clear h ih ha
    go_enter Tryz.func44, Tryz.ntmps44
    go_wp2_with fail
    refine HC.out.mono ?_
    intro e w2 hpost
    clear HC
    obtain ⟨_ | x, b⟩ := r
    · obtain ⟨nv1, rfl, hn, hk⟩ := hpost.none_ rfl
      have HE := Lib.hid (And.intro hk hn)
      clear hpost hn hk
      go_wp2_with fail
      go_ret
      exact OpPost.mkN HD.out.symm HE.out.1 HE.out.2
    · obtain ⟨nv1, rfl, hrd, hk⟩ := hpost.some_ rfl
      have HE := Lib.hid (And.intro hk hrd)
      clear hpost hrd hk
      go_wp2_with fail
      go_ret
      exact OpPost.mkS HD.out.symm HE.out.1 HE.out.2
end Big
end Go.Proofs.YtgopljllknbelaaGreatDoor
/- The program's operands and plain. -/
namespace Go.Proofs.YtgopljllknbelaaGreatDoor
namespace Big
open Go.RowKit
theorem poperands_any (w : World) (k : Int) : Calls Tryz.prog 51 #[.int .i64 k] w fun e w' => e = .returned (.int .i64 (operI k)) ∧ w = w' := by
  have key : (k < 1 ∧ operI k = -1) ∨ (1 ≤ k ∧ k ≤ 4 ∧ operI k = 0) ∨ (k = 5 ∧ operI k = 1) ∨ (6 ≤ k ∧ k ≤ 9 ∧ operI k = 2) ∨ (10 ≤ k ∧ k ≤ 16 ∧ operI k = 1) ∨ (17 ≤ k ∧ operI k = -1) := by
    unfold operI
    by_cases h1 : k < 1
    · simp [h1]
    by_cases h2 : 16 < k
    · simp [h1, h2]
      omega
    by_cases h3 : k ≤ 4
    · simp [h1, h2, h3]
      omega
    by_cases h4 : 6 ≤ k ∧ k ≤ 9
    · simp [h1, h2, h3, h4]
    · simp [h1, h2, h3, h4]
      omega
  rcases key with ⟨h1, h⟩ | ⟨h1, h2, h⟩ | ⟨rfl, h⟩ | ⟨h1, h2, h⟩ | ⟨h1, h2, h⟩ | ⟨h1, h⟩
  · have H := Lib.hid h
    have d1 : decide (k ≥ 1) = false := decide_eq_false (by omega)
    have d1' : ¬ 1 ≤ k := by omega
    have d2 : (k == 5) = false := by rw [beq_eq_false_iff_ne]; omega
    have d3 : decide (k ≥ 10) = false := decide_eq_false (by omega)
    have d3' : ¬ 10 ≤ k := by omega
    have d4 : decide (k ≥ 6) = false := decide_eq_false (by omega)
    have d4' : ¬ 6 ≤ k := by omega
    clear h
    go_enter Tryz.func51, Tryz.ntmps51
    go_wp2_with fail
    go_ret
    exact ⟨by rw [H.out]; rfl, rfl⟩
  · have H := Lib.hid h
    clear h
    go_enter Tryz.func51, Tryz.ntmps51
    go_wp2_with fail
    go_ret
    exact ⟨by rw [H.out]; rfl, rfl⟩
  · have H := Lib.hid h
    clear h
    go_enter Tryz.func51, Tryz.ntmps51
    go_wp2_with fail
    go_ret
    exact ⟨by rw [H.out]; rfl, rfl⟩
  · have H := Lib.hid h
    have d1' : 1 ≤ k := by omega
    have d1'' : ¬ k ≤ 4 := by omega
    have d2 : (k == 5) = false := by rw [beq_eq_false_iff_ne]; omega
    have d3' : ¬ 10 ≤ k := by omega
    clear h
    go_enter Tryz.func51, Tryz.ntmps51
    go_wp2_with fail
    go_ret
    exact ⟨by rw [H.out]; rfl, rfl⟩
  · have H := Lib.hid h
    have d1' : 1 ≤ k := by omega
    have d1'' : ¬ k ≤ 4 := by omega
    have d2 : (k == 5) = false := by rw [beq_eq_false_iff_ne]; omega
    clear h
    go_enter Tryz.func51, Tryz.ntmps51
    go_wp2_with fail
    go_ret
    exact ⟨by rw [H.out]; rfl, rfl⟩
  · have H := Lib.hid h
    have d1' : 1 ≤ k := by omega
    have d1'' : ¬ k ≤ 4 := by omega
    have d2 : (k == 5) = false := by rw [beq_eq_false_iff_ne]; omega
    have d3' : 10 ≤ k := by omega
    have d3'' : ¬ k ≤ 16 := by omega
    have d4' : 6 ≤ k := by omega
    have d4'' : ¬ k ≤ 9 := by omega
    clear h
    go_enter Tryz.func51, Tryz.ntmps51
    go_wp2_with fail
    go_ret
    exact ⟨by rw [H.out]; rfl, rfl⟩
set_option maxRecDepth 100000 in
set_option maxHeartbeats 1000000 in
theorem pplain_any (w : World) (x : Nd) (hl : x.text.length ≤ 1073741824) (hm : MaxV w) : Calls Tryz.prog 52 #[ndV x] w fun e w' => e = .returned (.bool (plainB x)) ∧ Ext w w' := by
  obtain ⟨k, a, b, n, t⟩ := x
  simp only [ndV] at hl ⊢
  have HP := Lib.hid (fun W h => parse7_any W t h)
  have HM := Lib.hid hm
  have HW := Lib.hid (fun W => word_any W t hl)
  have HRS := Lib.hid (fun W => reserved_any W t)
  have hnm : nameB t = (wordB t && !reservedB t) := by rw [reservedB_mem]; rfl
  obtain ⟨s, hs⟩ : ∃ s : ByteArray, s = ⟨t.toArray⟩ := ⟨_, rfl⟩
  have hst : str t = .string s := by rw [hs]; rfl
  have hne : s.toList.isEmpty = (t == []) := by rw [hs]; exact bytes_empty t
  rw [hst] at HP HW HRS ⊢
  clear hs hst hm
  have hb0 := Blk.new w 42 #[.int .i64 k, .int .i64 a, .int .i64 b, .int .i64 n, .string s]
  have HX0 := Lib.hid ((Ext.refl w).alloc (.cells #[.int .i64 k, .int .i64 a, .int .i64 b, .int .i64 n, .string s] 42))
  have HB0 := Lib.hid hb0
  obtain ⟨q0, q1, q2, q3, q4⟩ := hb0.five
  clear hb0
  have key : (k = 1) ∨ (k = 2) ∨ (k = 10) ∨ (k ≠ 1 ∧ k ≠ 2 ∧ k ≠ 10) := by omega
  rcases key with rfl | rfl | rfl | ⟨hk1, hk2, hk3⟩
  · have hcb : ((code7 t : Int) == 0) = (code7 t == 0) := by rw [Bool.eq_iff_iff]; simp
    have H : Hid (plainB ⟨1, a, b, n, t⟩ = ((code7 t : Int) == 0 && (n == 0))) := Lib.hid (by rw [hcb]; unfold plainB plainT plainM; simp)
    clear hne hcb hnm
    generalize plainB ⟨1, a, b, n, t⟩ = r at *
    generalize hce : (code7 t : Int) = ce at *
    go_enter Tryz.func52, Tryz.ntmps52
    go_wp2_with fail
    refine (HP.out _ (HM.out.ext HX0.out)).mono ?_
    rintro e w5 ⟨v5, rfl, hr5, hx5⟩
    obtain ⟨b5, n5, A5, c5, n6, A6, c6, rfl⟩ := hr5.shape
    have hx6 := hx5.alloc (.cells #[.bool b5, .slice A5 n5 c5, .slice A6 n6 c6] 104)
    have HX6 := Lib.hid (HX0.out.trans hx6)
    obtain ⟨q0, q1, q2, q3, q4⟩ := (HB0.out.ext hx6).five
    clear hr5 hx5 hx6
    rw [hce]
    clear hce
    cases hz : (ce == 0)
    · rw [hz] at H
      go_wp2_with fail
      go_ret
      exact ⟨by rw [H.out]; rfl, HX6.out⟩
    · rw [hz] at H
      go_wp2_with fail
      go_ret
      exact ⟨by rw [H.out]; rfl, HX6.out⟩
  · have H : Hid (plainB ⟨2, a, b, n, t⟩ = ((wordB t && !reservedB t) && (n == 0))) := Lib.hid (by rw [← hnm]; unfold plainB plainT plainM; simp)
    generalize plainB ⟨2, a, b, n, t⟩ = r at *
    clear hne hnm
    cases hw : wordB t
    · rw [hw] at HW H
      clear hw
      go_enter Tryz.func52, Tryz.ntmps52
      go_wp2_with fail
      refine (HW.out _).mono ?_
      rintro e w5 ⟨rfl, rfl⟩
      go_wp2_with fail
      go_ret
      exact ⟨by rw [H.out]; rfl, HX0.out⟩
    · rw [hw] at HW H
      clear hw
      cases hv : reservedB t
      all_goals
        rw [hv] at HRS H
        clear hv
        go_enter Tryz.func52, Tryz.ntmps52
        go_wp2_with fail
        refine (HW.out _).mono ?_
        rintro e w5 ⟨rfl, rfl⟩
        go_wp2_with fail
        refine (HRS.out _).mono ?_
        rintro e w6 ⟨rfl, rfl⟩
        go_wp2_with fail
        go_ret
        exact ⟨by rw [H.out]; rfl, HX0.out⟩
  · have H : Hid (plainB ⟨10, a, b, n, t⟩ = ((decide (-64 ≤ n) && decide (n ≤ 64)) && s.toList.isEmpty)) := Lib.hid (by rw [hne, ← plainM_10]; unfold plainB plainT plainM; rw [Bool.and_comm]; rfl)
    generalize plainB ⟨10, a, b, n, t⟩ = r at *
    clear hne hnm HP HW HRS hl
    by_cases hn : -64 ≤ n
    · have hd : decide (-64 ≤ n) = true := decide_eq_true hn
      rw [hd] at H
      by_cases hn2 : n ≤ 64
      · have hd2 : decide (n ≤ 64) = true := decide_eq_true hn2
        rw [hd2] at H
        go_enter Tryz.func52, Tryz.ntmps52
        go_wp2_with fail
        go_ret
        exact ⟨by rw [H.out]; rfl, HX0.out⟩
      · have hd2 : decide (n ≤ 64) = false := decide_eq_false hn2
        rw [hd2] at H
        go_enter Tryz.func52, Tryz.ntmps52
        go_wp2_with fail
        go_ret
        exact ⟨by rw [H.out]; rfl, HX0.out⟩
    · have hd : decide (-64 ≤ n) = false := decide_eq_false hn
      rw [hd] at H
      go_enter Tryz.func52, Tryz.ntmps52
      go_wp2_with fail
      go_ret
      exact ⟨by rw [H.out]; rfl, HX0.out⟩
  · have e1 : (k == 1) = false := by rw [beq_eq_false_iff_ne]; omega
    have e2 : (k == 2) = false := by rw [beq_eq_false_iff_ne]; omega
    have e3 : (k == 10) = false := by rw [beq_eq_false_iff_ne]; omega
    have H : Hid (plainB ⟨k, a, b, n, t⟩ = ((n == 0) && s.toList.isEmpty)) := Lib.hid (by rw [hne, Bool.and_comm]; unfold plainB plainT plainM; rw [if_neg hk1, if_neg hk2, if_neg hk3])
    generalize plainB ⟨k, a, b, n, t⟩ = r at *
    clear hne hnm HP HW HRS hl hk1 hk2 hk3
    cases hz : (n == 0)
    · rw [hz] at H
      go_enter Tryz.func52, Tryz.ntmps52
      go_wp2_with fail
      go_ret
      exact ⟨by rw [H.out]; rfl, HX0.out⟩
    · rw [hz] at H
      go_enter Tryz.func52, Tryz.ntmps52
      go_wp2_with fail
      go_ret
      exact ⟨by rw [H.out]; rfl, HX0.out⟩
end Big
end Go.Proofs.YtgopljllknbelaaGreatDoor
