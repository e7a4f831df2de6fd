import Derived.Test.YtgopljllknbelaaGreatDoorM30
import Derived.Test.YtgopljllknbelaaGreatDoorM29
import Derived.Test.YtgopljllknbelaaGreatDoorM20
import Derived.Test.YtgopljllknbelaaGreatDoorM23
/- The reference's minus, product, sum. -/
namespace Go.Proofs.YtgopljllknbelaaGreatDoor
namespace Big
open Go.RowKit
section
variable {p : Nat → Option Ex × Nat} {ts : List Tok} {a b : Nat} {x : Ex}
theorem pMinus_noS (h : isS ts a [45] = false) : pMinus p ts a = pPower p ts a := by
  unfold pMinus
  rw [M_no h, Nat.add_zero]
  rcases pPower p ts a with ⟨_ | x, b⟩ <;> rfl
theorem pMinus_yesN (h : isS ts a [45] = true) (hr : pMinus p ts (a + 1) = (none, b)) : pMinus p ts a = (none, b) := by
  unfold pMinus at hr ⊢
  rw [M_yes h, show a + (minusRun ts ts.length (a + 1) + 1) = a + 1 + minusRun ts ts.length (a + 1) by omega]
  rcases h2 : pPower p ts (a + 1 + minusRun ts ts.length (a + 1)) with ⟨_ | x, b⟩
  · rw [h2] at hr; exact hr
  · rw [h2] at hr; simp at hr
theorem pMinus_yesS (h : isS ts a [45] = true) (hr : pMinus p ts (a + 1) = (some x, b)) : pMinus p ts a = (some (.un 5 0 x), b) := by
  unfold pMinus at hr ⊢
  rw [M_yes h, show a + (minusRun ts ts.length (a + 1) + 1) = a + 1 + minusRun ts ts.length (a + 1) by omega]
  rcases h2 : pPower p ts (a + 1 + minusRun ts ts.length (a + 1)) with ⟨_ | y, b'⟩
  · rw [h2] at hr; simp at hr
  · rw [h2] at hr
    simp only [Prod.mk.injEq, Option.some.injEq] at hr ⊢
    obtain ⟨rfl, rfl⟩ := hr
    exact ⟨negs_succ _ _, rfl⟩
end
theorem neg_node {len : Nat} : putN 5 0 0 len [] = ⟨5, (len : Int) - 1, 0, 0, []⟩ := by
  unfold putN
  rw [if_pos (by decide)]
theorem bin_node {k first : Int} (hk : operI k = 2) {len : Nat} : putN k first 0 len [] = ⟨k, first, (len : Int) - 1, 0, []⟩ := by
  unfold putN
  rw [if_neg (by rw [hk]; decide), if_pos hk]
set_option maxRecDepth 100000 in
theorem rminus_any (g : Nat) (ts : List Tok) (tv : Value) (f : Nat) (hfi : ∀ t ∈ ts, TokFine t) (d : Nat) : ∀ a, ts.length ≤ a + d → (∀ a', a < a' → SumR g ts tv f a') → ∀ (w : World) (ns : List Nd) (lg : Bool) (nv : Value), RdR g w ts a false ns lg tv nv →
    Calls Tryz.prog 100 #[.pointer (some ⟨g, 0, none⟩)] w (OpPostR g ts tv ns nv lg (pMinus (pSum ts f) ts a) w) := by
  induction d with
  | zero =>
    intro a had hs w ns lg nv h
    have hz : isS ts a [45] = false := by
      unfold isS
      rw [List.getElem?_eq_none (by omega)]
    have HM := Lib.hid (pMinus_noS (p := pSum ts f) hz)
    have HIM := Lib.hid (is_any g w ts a false ns lg tv nv [45] h)
    rw [show str [45] = .string ⟨#[45]⟩ from rfl, hz] at HIM
    simp only [Bool.and_false] at HIM
    have HPW := Lib.hid (fun W h => rpower_any g ts tv f a hfi hs W ns lg nv h)
    have HR := Lib.hid h
    clear h hs hz had hfi
    go_enter Tryz.func100, Tryz.ntmps100
    go_wp2_with fail
    refine HIM.out.mono ?_
    rintro e w2 ⟨rfl, hd⟩
    have HE := Lib.hid (And.intro (HR.out.keep hd.ext) (KR.of_ext (g := g) (nv := nv) hd.ext))
    clear hd
    go_wp2_with fail
    refine (HPW.out w2 HE.out.1).mono ?_
    rintro e w3 hpost
    obtain ⟨rfl, nv3, hk3, hm⟩ := hpost
    have HPO : Hid (OpPostR g ts tv ns nv lg (pMinus (pSum ts f) ts a) w (.returned (.tuple #[])) w3) := Lib.hid (by
      rw [HM.out]
      exact ⟨rfl, nv3, HE.out.2.trans hk3, hm⟩)
    clear hk3 hm
    go_wp2_with fail
    (try simp only [Exit.inBlock, Exit.then])
    first
      | refine bodyPost_ret (results_none rfl _ _ _) rfl ?_
      | refine bodyPost_end (results_none rfl _ _ _) rfl ?_
    exact HPO.out
  | succ d ih =>
    intro a had hs w ns lg nv h
    have HIM := Lib.hid (is_any g w ts a false ns lg tv nv [45] h)
    rw [show str [45] = .string ⟨#[45]⟩ from rfl] at HIM
    simp only [Bool.not_false, Bool.true_and] at HIM
    have HR := Lib.hid h
    have HFI := Lib.hid hfi
    obtain ⟨u, hz⟩ : ∃ u, isS ts a [45] = u := ⟨_, rfl⟩
    rw [hz] at HIM
    cases u
    · have HM := Lib.hid (pMinus_noS (p := pSum ts f) hz)
      have HPW := Lib.hid (fun W h => rpower_any g ts tv f a hfi hs W ns lg nv h)
      clear h hs hz had hfi ih
      go_enter Tryz.func100, Tryz.ntmps100
      go_wp2_with fail
      refine HIM.out.mono ?_
      rintro e w2 ⟨rfl, hd⟩
      have HE := Lib.hid (And.intro (HR.out.keep hd.ext) (KR.of_ext (g := g) (nv := nv) hd.ext))
      clear hd
      go_wp2_with fail
      refine (HPW.out w2 HE.out.1).mono ?_
      rintro e w3 hpost
      obtain ⟨rfl, nv3, hk3, hm⟩ := hpost
      have HPO : Hid (OpPostR g ts tv ns nv lg (pMinus (pSum ts f) ts a) w (.returned (.tuple #[])) w3) := Lib.hid (by
        rw [HM.out]
        exact ⟨rfl, nv3, HE.out.2.trans hk3, hm⟩)
      clear hk3 hm
      go_wp2_with fail
      (try simp only [Exit.inBlock, Exit.then])
      first
        | refine bodyPost_ret (results_none rfl _ _ _) rfl ?_
        | refine bodyPost_end (results_none rfl _ _ _) rfl ?_
      exact HPO.out
    · have hlt := isS_lt hz
      have hmax := h.max
      have HIH := Lib.hid (ih (a + 1) (by omega) (fun a' h' => hs a' (by omega)))
      have hga := pMinus_good (pSum_good ts f) (a + 1) hlt
      have HZ := Lib.hid hz
      have hwa : IntKind.i64.wrap ((a : Int) + 1) = (a : Int) + 1 := IntWalk.i64_in _ (by omega)
      clear h hs hz had hfi ih
      go_enter Tryz.func100, Tryz.ntmps100
      go_wp2_with fail
      refine HIM.out.mono ?_
      rintro e w2 ⟨rfl, hd⟩
      have hr2 := HR.out.keep hd.ext
      have HR2 := Lib.hid hr2
      have HK2 := Lib.hid (KR.of_ext (g := g) (nv := nv) hd.ext)
      obtain ⟨⟨k0, k1, k2, k3, k4⟩, ⟨f1, f2, f3, f4⟩, hg2⟩ := hr2.blk.five'
      clear hd hr2
      go_upto_region 2 with fail
      have hst := HR2.out.stepR hlt
      obtain ⟨w3, hw3⟩ : ∃ w3, w3 = w2.setCell ⟨g, 1, none⟩ (.int .i64 ((a : Int) + 1)) := ⟨_, rfl⟩
      rw [← hw3] at hst ⊢
      have HK3 := Lib.hid (HK2.out.trans hst.2)
      have HC3 := Lib.hid (HIH.out w3 ns lg nv hst.1)
      clear hst hw3 k0 k1 k2 k3 k4 f1 f2 f3 f4
      go_wp2_with fail
      refine HC3.out.mono ?_
      intro e w4 hpost
      obtain ⟨r, hr⟩ : ∃ r, pMinus (pSum ts f) ts (a + 1) = r := ⟨_, rfl⟩
      rw [hr] at hga
      obtain ⟨_ | x, b⟩ := r
      · obtain ⟨rfl, nv4, ns4, lg4, hrd, hk⟩ := hpost.none_ hr
        have HD := Lib.hid (pMinus_yesN HZ.out hr)
        have HE := Lib.hid (And.intro (HK3.out.trans hk) hrd)
        obtain ⟨⟨k0, k1, k2, k3, k4⟩, ⟨f1, f2, f3, f4⟩, hg4⟩ := hrd.blk.five'
        clear hpost hr hrd hk hga
        go_wp2_with fail
        (try simp only [Exit.inBlock, Exit.then])
        first
          | refine bodyPost_ret (results_none rfl _ _ _) rfl ?_
          | refine bodyPost_end (results_none rfl _ _ _) rfl ?_
        exact OpPostR.mkN HD.out HE.out.1 HE.out.2
      · obtain ⟨rfl, nv4, hrd, hk⟩ := hpost.some_ hr
        have hgx := hga.2.2 x rfl
        have hgl := hga.2.1
        simp only at hgx hgl
        have HD := Lib.hid (pMinus_yesS HZ.out hr)
        have HK4 := Lib.hid (HK3.out.trans hk)
        have hfw4 : (ns ++ flat ns.length x).length + 1 ≤ b := by have := HR.out.few; rw [nds_len]; omega
        have HPU := Lib.hid (put_any g w4 ts b false _ _ tv nv4 5 0 0 [] hrd hfw4)
        rw [show str [] = .string ⟨#[]⟩ from rfl, neg_node] at HPU
        obtain ⟨⟨k0, k1, k2, k3, k4⟩, ⟨f1, f2, f3, f4⟩, hg4⟩ := hrd.blk.five'
        clear hpost hr hrd hk hga hfw4
        go_wp2_with fail
        refine HPU.out.mono ?_
        rintro e w5 ⟨nv5, rfl, hk5, hr5⟩
        have hxp := x.size_pos
        have hbg : (lg || x.big) = (lg || (Ex.un 5 0 x).big) := by rw [Ex.big]; rfl
        have HF : Hid (RdR g w5 ts b false (ns ++ flat ns.length (.un 5 0 x)) (lg || (Ex.un 5 0 x).big) tv nv5) := Lib.hid (hr5.as hbg (by
          rw [flat_un_snoc, ← List.append_assoc, nds_len, show ((ns.length + x.size - 1 : Nat) : Int) = ((ns.length + x.size : Nat) : Int) - 1 by omega]
          rfl))
        have HK5 := Lib.hid (HK4.out.trans hk5)
        clear hk5 hr5 hbg
        go_wp2_with fail
        (try simp only [Exit.inBlock, Exit.then])
        first
          | refine bodyPost_ret (results_none rfl _ _ _) rfl ?_
          | refine bodyPost_end (results_none rfl _ _ _) rfl ?_
        exact OpPostR.mkS HD.out HK5.out HF.out
/-- What the reference's loops hold behind a good reading. -/
structure ChInvR (g : Nat) (ts : List Tok) (tv : Value) (ns : List Nd) (nv : Value) (lg : Bool) (w : World) (C : Option Ex × Nat) (op : Nat → Option Ex × Nat) (s1 s2 : List UInt8) (k1 k2 a f b : Nat) (x : Ex) (nv' : Value) (wr : World) : Prop where
  rd : RdR g wr ts b false (ns ++ flat ns.length x) (lg || x.big) tv nv'
  kr : KR g nv nv' w wr
  eq : C = chainGo op ts s1 s2 k1 k2 f x b
  fuel : ts.length ≤ b + f
  lo : a ≤ b
  sz : ns.length + x.size ≤ b
theorem ChInvR.next {g : Nat} {ts : List Tok} {tv nv nv1 nv2 nv3 nv4 : Value} {ns : List Nd} {lg : Bool} {w wr w1 w2 w3 : World} {C : Option Ex × Nat} {op : Nat → Option Ex × Nat} {s1 s2 : List UInt8} {k1 k2 a f b b' k n1 n2 : Nat} {x y : Ex}
    (h : ChInvR g ts tv ns nv lg w C op s1 s2 k1 k2 a f b x nv1 wr) (hc : C = chainGo op ts s1 s2 k1 k2 (f - 1) (.bin k x y) b') (hb : b + 1 + y.size ≤ b') (hr : RdR g w3 ts b' false (((ns ++ flat ns.length x) ++ flat (ns ++ flat ns.length x).length y) ++ [⟨(k : Int), (n1 : Int) - 1, (n2 : Int) - 1, 0, []⟩]) ((lg || x.big) || y.big) tv nv4)
    (hn1 : n1 = (ns ++ flat ns.length x).length) (hn2 : n2 = ((ns ++ flat ns.length x) ++ flat (ns ++ flat ns.length x).length y).length)
    (hk1 : KR g nv1 nv2 wr w1) (hk2 : KR g nv2 nv3 w1 w2) (hk3 : KR g nv3 nv4 w2 w3) : ChInvR g ts tv ns nv lg w C op s1 s2 k1 k2 a (f - 1) b' (.bin k x y) nv4 w3 := by
  subst hn1
  subst hn2
  have hx := x.size_pos
  have hy := y.size_pos
  have h1 := h.fuel
  have h2 := h.lo
  have h3 := h.sz
  refine ⟨?_, ((h.kr.trans hk1).trans hk2).trans hk3, hc, by omega, by omega, by rw [Ex.size]; omega⟩
  refine hr.as (by rw [Ex.big, Bool.or_assoc]) ?_
  rw [flat_bin]
  have e1 : (ns ++ flat ns.length x).length = ns.length + x.size := nds_len
  rw [e1]
  have e2 : ((ns ++ flat ns.length x) ++ flat (ns.length + x.size) y).length = ns.length + x.size + y.size := by rw [List.length_append, e1, flat_len]
  rw [e2]
  rw [show ((ns.length + x.size - 1 : Nat) : Int) = ((ns.length + x.size : Nat) : Int) - 1 by omega, show ((ns.length + x.size + y.size - 1 : Nat) : Int) = ((ns.length + x.size + y.size : Nat) : Int) - 1 by omega]
  simp only [List.append_assoc]
/-- What the reference's loops hold. -/
def LoR (g : Nat) (ts : List Tok) (tv : Value) (ns : List Nd) (nv : Value) (lg : Bool) (w : World) (C : Option Ex × Nat) (op : Nat → Option Ex × Nat) (s1 s2 : List UInt8) (k1 k2 a : Nat) (b : Nat) (wr : World) : Prop :=
  (C = (none, b) ∧ ∃ nv' ns' lg', RdR g wr ts b true ns' lg' tv nv' ∧ KR g nv nv' w wr) ∨ ∃ f x nv', ChInvR g ts tv ns nv lg w C op s1 s2 k1 k2 a f b x nv' wr
theorem isS_not {ts : List Tok} {b : Nat} {c d : List UInt8} (h : isS ts b c = true) (hcd : (c == d) = false) : isS ts b d = false := by
  unfold isS at h ⊢
  cases h2 : ts[b]? with
  | none => rfl
  | some t =>
    rw [h2] at h
    simp only [Bool.and_eq_true, beq_iff_eq] at h
    simp only [h.2, hcd, Bool.and_false]
set_option maxHeartbeats 4000000 in
set_option maxRecDepth 100000 in
theorem rproduct_any (g : Nat) (ts : List Tok) (tv : Value) (f a : Nat) (hfi : ∀ t ∈ ts, TokFine t) (hs : ∀ a', a < a' → SumR g ts tv f a') (w : World) (ns : List Nd) (lg : Bool) (nv : Value) (h : RdR g w ts a false ns lg tv nv) :
    Calls Tryz.prog 66 #[.pointer (some ⟨g, 0, none⟩)] w (OpPostR g ts tv ns nv lg (pProd (pSum ts f) ts a) w) := by
  have HOP : Hid (∀ a', a ≤ a' → ∀ w ns lg nv, RdR g w ts a' false ns lg tv nv → Calls Tryz.prog 100 #[.pointer (some ⟨g, 0, none⟩)] w (OpPostR g ts tv ns nv lg (pMinus (pSum ts f) ts a') w)) :=
    Lib.hid (fun a' ha w ns lg nv h => rminus_any g ts tv f hfi ts.length a' (by omega) (fun b hb => hs b (by omega)) w ns lg nv h)
  have HG := Lib.hid (pMinus_good (pSum_good ts f))
  obtain ⟨C, hC⟩ : ∃ C, chainP (pMinus (pSum ts f) ts) ts [42] [47] 8 9 a = C := ⟨_, rfl⟩
  rw [show pProd (pSum ts f) ts a = chainP (pMinus (pSum ts f) ts) ts [42] [47] 8 9 a from rfl, hC]
  generalize pMinus (pSum ts f) ts = op at *
  clear hs hfi
  have HI1 := Lib.hid (fun W a bad ns lg nv h => is_any g W ts a bad ns lg tv nv [42] h)
  have HI2 := Lib.hid (fun W a bad ns lg nv h => is_any g W ts a bad ns lg tv nv [47] h)
  rw [show str [42] = .string ⟨#[42]⟩ from rfl] at HI1
  rw [show str [47] = .string ⟨#[47]⟩ from rfl] at HI2
  have hle := h.le
  have hmax := h.max
  have hfew := h.few
  have HC : Hid (∀ r, op a = r → C = match r with | (none, b) => (none, b) | (some x, b) => chainGo op ts [42] [47] 8 9 ts.length x b) := Lib.hid (fun r hr => by rw [← hC]; unfold chainP; rw [hr] <;> (obtain ⟨_ | x, b⟩ := r <;> rfl))
  have hga := HG.out a hle
  have HO := Lib.hid (HOP.out a (Nat.le_refl _) w ns lg nv h)
  clear h hC
  go_enter Tryz.func66, Tryz.ntmps66
  go_wp2_with fail
  refine HO.out.mono ?_
  intro e w3 hpost
  have hst : e = .returned (.tuple #[]) ∧ ∃ b, LoR g ts tv ns nv lg w C op [42] [47] 8 9 a b w3 := by
    obtain ⟨r, hr⟩ : ∃ r, op a = r := ⟨_, rfl⟩
    have hC := HC.out r hr
    rw [hr] at hga
    obtain ⟨_ | x, b⟩ := r
    · obtain ⟨rfl, nv1, ns1, lg1, hrd, hk⟩ := hpost.none_ hr
      exact ⟨rfl, b, .inl ⟨hC, nv1, ns1, lg1, hrd, hk⟩⟩
    · obtain ⟨rfl, nv1, hrd, hk⟩ := hpost.some_ hr
      have hgs := hga.2.2 x rfl
      have hgl := hga.1
      simp only at hgs hgl
      exact ⟨rfl, b, .inr ⟨ts.length, x, nv1, hrd, hk, hC, by omega, hgl, by omega⟩⟩
  obtain ⟨rfl, b0, hlo⟩ := hst
  have HLO := Lib.hid hlo
  clear hpost hlo hga HO HC
  go_wp2_with fail
  go_loopg [] (ts.length - b0) (fun gh wr => ∃ b, gh = ts.length - b ∧ LoR g ts tv ns nv lg w C op [42] [47] 8 9 a b wr)
  case atStart => exact ⟨b0, rfl, HLO.out⟩
  case round =>
    obtain ⟨b, hgg, ⟨hcn, nv1, ns1, lg1, hrd, hkr⟩ | ⟨f1', x, nv1, hinv⟩⟩ := hrel
    · have HE := Lib.hid (And.intro hkr hrd)
      have HCN := Lib.hid hcn
      have HB1 := Lib.hid (HI1.out wr b true ns1 lg1 nv1 hrd)
      simp only [Bool.not_true, Bool.false_and] at HB1
      clear hgg hcn hrd hkr HLO
      go_wp2_with fail
      refine HB1.out.mono ?_
      rintro e w4 ⟨rfl, hd⟩
      have HE2 := Lib.hid (And.intro (HE.out.1.trans (KR.of_ext hd.ext)) (HE.out.2.keep hd.ext))
      have HB2 := Lib.hid (HI2.out w4 b true ns1 lg1 nv1 HE2.out.2)
      simp only [Bool.not_true, Bool.false_and] at HB2
      clear hd
      go_wp2_with fail
      refine HB2.out.mono ?_
      rintro e w5 ⟨rfl, hd⟩
      have HE3 := Lib.hid (And.intro (HE2.out.1.trans (KR.of_ext hd.ext)) (HE2.out.2.keep hd.ext))
      clear hd
      go_wp2_with fail
      (try simp only [Exit.inBlock, Exit.then])
      first
        | refine bodyPost_ret (results_none rfl _ _ _) rfl ?_
        | refine bodyPost_end (results_none rfl _ _ _) rfl ?_
      exact OpPostR.mkN HCN.out HE3.out.1 HE3.out.2
    · have HGG := Lib.hid hgg
      have HI := Lib.hid hinv
      have HX1 := Lib.hid (HI1.out wr b false _ _ nv1 hinv.rd)
      simp only [Bool.not_false, Bool.true_and] at HX1
      have hbl := hinv.rd.le
      have hbf := hinv.fuel
      clear hgg hinv HLO
      obtain ⟨u1, hu1⟩ : ∃ u, isS ts b [42] = u := ⟨_, rfl⟩
      rw [hu1] at HX1
      cases u1
      · go_wp2_with fail
        refine HX1.out.mono ?_
        rintro e w3' ⟨rfl, hd⟩
        have HK3 := Lib.hid (KR.of_ext (g := g) (nv := nv1) hd.ext)
        have HR3 := Lib.hid (HI.out.rd.keep hd.ext)
        have HX2 := Lib.hid (HI2.out w3' b false _ _ nv1 HR3.out)
        simp only [Bool.not_false, Bool.true_and] at HX2
        clear hd
        obtain ⟨u2, hu2⟩ : ∃ u, isS ts b [47] = u := ⟨_, rfl⟩
        rw [hu2] at HX2
        cases u2
        · have HDN : Hid (C = (some x, b)) := Lib.hid (by rw [HI.out.eq, chainGo_stop f1' hu1 hu2])
          go_wp2_with fail
          refine HX2.out.mono ?_
          rintro e w4 ⟨rfl, hd⟩
          have HE := Lib.hid (And.intro ((HI.out.kr.trans HK3.out).trans (KR.of_ext hd.ext)) (HR3.out.keep hd.ext))
          clear hd
          go_wp2_with fail
          (try simp only [Exit.inBlock, Exit.then])
          first
            | refine bodyPost_ret (results_none rfl _ _ _) rfl ?_
            | refine bodyPost_end (results_none rfl _ _ _) rfl ?_
          exact OpPostR.mkS HDN.out HE.out.1 HE.out.2
        · have hltb := isS_lt hu2
          have hwb : IntKind.i64.wrap ((b : Int) + 1) = (b : Int) + 1 := IntWalk.i64_in _ (by omega)
          go_wp2_with fail
          refine HX2.out.mono ?_
          rintro e w4 ⟨rfl, hd⟩
          have HK4 := Lib.hid (HK3.out.trans (KR.of_ext hd.ext))
          have HR4 := Lib.hid (HR3.out.keep hd.ext)
          have HX4 := Lib.hid (HI2.out w4 b false _ _ nv1 HR4.out)
          simp only [Bool.not_false, Bool.true_and] at HX4
          rw [hu2] at HX4
          clear hd
          go_wp2_with fail
          refine HX4.out.mono ?_
          rintro e w5 ⟨rfl, hd⟩
          have hr5 := HR4.out.keep hd.ext
          have HR5 := Lib.hid hr5
          have HK5 := Lib.hid (HK4.out.trans (KR.of_ext hd.ext))
          obtain ⟨A2, c2, rfl⟩ := hr5.row.shape
          obtain ⟨n1, hn1⟩ : ∃ n1, n1 = (ns ++ flat ns.length x).length := ⟨_, rfl⟩
          obtain ⟨⟨k0, k1, k2, k3, k4⟩, ⟨f1, f2, f3, f4⟩, hg5⟩ := hr5.blk.five'
          have hsz1 : 1 ≤ n1 := by rw [hn1, nds_len]; have := x.size_pos; omega
          have hfw5 : n1 ≤ b := by rw [hn1]; exact hr5.few
          rw [← hn1] at k3
          have HN1 := Lib.hid hn1
          have hwn : IntKind.i64.wrap ((n1 : Int) - 1) = (n1 : Int) - 1 := IntWalk.i64_in _ (by omega)
          clear hd hr5 hn1
          go_upto_region 7 with fail
          have hst := HR5.out.stepR hltb
          obtain ⟨w6, hw6⟩ : ∃ w6, w6 = w5.setCell ⟨g, 1, none⟩ (.int .i64 ((b : Int) + 1)) := ⟨_, rfl⟩
          rw [← hw6] at hst ⊢
          have HK6 := Lib.hid (HK5.out.trans hst.2)
          have HO2 := Lib.hid (HOP.out (b + 1) (by have := HI.out.lo; omega) w6 _ _ _ hst.1)
          have hgb := HG.out (b + 1) hltb
          obtain ⟨r, hr⟩ : ∃ r, op (b + 1) = r := ⟨_, rfl⟩
          have HCE : Hid (C = chTail op ts [42] [47] 8 9 (f1' - 1) 9 x r) := Lib.hid (by rw [HI.out.eq, chainGo_two (by omega) hu1 hu2, hr])
          rw [hr] at hgb
          clear hst hw6 k0 k1 k2 k3 k4 f1 f2 f3 f4
          go_wp2_with fail
          refine HO2.out.mono ?_
          intro e w7 hpost
          obtain ⟨_ | y, b'⟩ := r
          · obtain ⟨rfl, nv7, ns7, lg7, hrd, hk⟩ := hpost.none_ hr
            have hgl := hgb.1
            simp only at hgl
            have hbn := hgb.2.1
            simp only at hbn
            have HF : Hid (LoR g ts tv ns nv lg w C op [42] [47] 8 9 a b' w7) := Lib.hid (.inl ⟨HCE.out, nv7, ns7, lg7, hrd, (HI.out.kr.trans HK6.out).trans hk⟩)
            obtain ⟨⟨k0, k1, k2, k3, k4⟩, ⟨f1, f2, f3, f4⟩, hg7⟩ := hrd.blk.five'
            clear hpost hr hrd hk hgb
            go_wp2_with fail
            go_roundg (ts.length - b')
            case rel => exact ⟨b', rfl, HF.out⟩
            case measure => rw [HGG.out]; omega
          · obtain ⟨rfl, nv7, hrd, hk⟩ := hpost.some_ hr
            have hys := hgb.2.2 y rfl
            have hbn := hgb.2.1
            simp only at hys hbn
            have HK7 := Lib.hid hk
            have hfw7 : ((ns ++ flat ns.length x) ++ flat (ns ++ flat ns.length x).length y).length + 1 ≤ b' := by have := HI.out.sz; rw [nds_len, nds_len]; omega
            have HPU := Lib.hid (put_any g w7 ts b' false _ _ tv nv7 9 ((n1 : Int) - 1) 0 [] hrd hfw7)
            rw [show str [] = .string ⟨#[]⟩ from rfl, bin_node (by decide)] at HPU
            obtain ⟨n2, hn2⟩ : ∃ n2, n2 = ((ns ++ flat ns.length x) ++ flat (ns ++ flat ns.length x).length y).length := ⟨_, rfl⟩
            rw [← hn2] at HPU
            have HN2 := Lib.hid hn2
            obtain ⟨⟨k0, k1, k2, k3, k4⟩, ⟨f1, f2, f3, f4⟩, hg7⟩ := hrd.blk.five'
            clear hpost hr hrd hk hgb hn2 hfw7
            go_wp2_with fail
            refine HPU.out.mono ?_
            rintro e w8 ⟨nv8, rfl, hk8, hr8⟩
            have HF : Hid (LoR g ts tv ns nv lg w C op [42] [47] 8 9 a b' w8) := Lib.hid (.inr ⟨f1' - 1, .bin 9 x y, nv8, HI.out.next HCE.out hys hr8 HN1.out HN2.out HK6.out HK7.out hk8⟩)
            clear hk8 hr8
            go_wp2_with fail
            go_roundg (ts.length - b')
            case rel => exact ⟨b', rfl, HF.out⟩
            case measure => rw [HGG.out]; omega
      · have hltb := isS_lt hu1
        have hwb : IntKind.i64.wrap ((b : Int) + 1) = (b : Int) + 1 := IntWalk.i64_in _ (by omega)
        have hu2 := isS_not (d := [47]) hu1 (by decide)
        go_wp2_with fail
        refine HX1.out.mono ?_
        rintro e w4 ⟨rfl, hd⟩
        have HK4 := Lib.hid (KR.of_ext (g := g) (nv := nv1) hd.ext)
        have HR4 := Lib.hid (HI.out.rd.keep hd.ext)
        have HX4 := Lib.hid (HI2.out w4 b false _ _ nv1 HR4.out)
        simp only [Bool.not_false, Bool.true_and] at HX4
        rw [hu2] at HX4
        clear hd
        go_wp2_with fail
        refine HX4.out.mono ?_
        rintro e w5 ⟨rfl, hd⟩
        have hr5 := HR4.out.keep hd.ext
        have HR5 := Lib.hid hr5
        have HK5 := Lib.hid (HK4.out.trans (KR.of_ext hd.ext))
        obtain ⟨A2, c2, rfl⟩ := hr5.row.shape
        obtain ⟨n1, hn1⟩ : ∃ n1, n1 = (ns ++ flat ns.length x).length := ⟨_, rfl⟩
        obtain ⟨⟨k0, k1, k2, k3, k4⟩, ⟨f1, f2, f3, f4⟩, hg5⟩ := hr5.blk.five'
        have hsz1 : 1 ≤ n1 := by rw [hn1, nds_len]; have := x.size_pos; omega
        have hfw5 : n1 ≤ b := by rw [hn1]; exact hr5.few
        rw [← hn1] at k3
        have HN1 := Lib.hid hn1
        have hwn : IntKind.i64.wrap ((n1 : Int) - 1) = (n1 : Int) - 1 := IntWalk.i64_in _ (by omega)
        clear hd hr5 hn1
        go_upto_region 7 with fail
        have hst := HR5.out.stepR hltb
        obtain ⟨w6, hw6⟩ : ∃ w6, w6 = w5.setCell ⟨g, 1, none⟩ (.int .i64 ((b : Int) + 1)) := ⟨_, rfl⟩
        rw [← hw6] at hst ⊢
        have HK6 := Lib.hid (HK5.out.trans hst.2)
        have HO2 := Lib.hid (HOP.out (b + 1) (by have := HI.out.lo; omega) w6 _ _ _ hst.1)
        have hgb := HG.out (b + 1) hltb
        obtain ⟨r, hr⟩ : ∃ r, op (b + 1) = r := ⟨_, rfl⟩
        have HCE : Hid (C = chTail op ts [42] [47] 8 9 (f1' - 1) 8 x r) := Lib.hid (by rw [HI.out.eq, chainGo_one (by omega) hu1, hr])
        rw [hr] at hgb
        clear hst hw6 k0 k1 k2 k3 k4 f1 f2 f3 f4
        go_wp2_with fail
        refine HO2.out.mono ?_
        intro e w7 hpost
        obtain ⟨_ | y, b'⟩ := r
        · obtain ⟨rfl, nv7, ns7, lg7, hrd, hk⟩ := hpost.none_ hr
          have hgl := hgb.1
          simp only at hgl
          have hbn := hgb.2.1
          simp only at hbn
          have HF : Hid (LoR g ts tv ns nv lg w C op [42] [47] 8 9 a b' w7) := Lib.hid (.inl ⟨HCE.out, nv7, ns7, lg7, hrd, (HI.out.kr.trans HK6.out).trans hk⟩)
          obtain ⟨⟨k0, k1, k2, k3, k4⟩, ⟨f1, f2, f3, f4⟩, hg7⟩ := hrd.blk.five'
          clear hpost hr hrd hk hgb
          go_wp2_with fail
          go_roundg (ts.length - b')
          case rel => exact ⟨b', rfl, HF.out⟩
          case measure => rw [HGG.out]; omega
        · obtain ⟨rfl, nv7, hrd, hk⟩ := hpost.some_ hr
          have hys := hgb.2.2 y rfl
          have hbn := hgb.2.1
          simp only at hys hbn
          have HK7 := Lib.hid hk
          have hfw7 : ((ns ++ flat ns.length x) ++ flat (ns ++ flat ns.length x).length y).length + 1 ≤ b' := by have := HI.out.sz; rw [nds_len, nds_len]; omega
          have HPU := Lib.hid (put_any g w7 ts b' false _ _ tv nv7 8 ((n1 : Int) - 1) 0 [] hrd hfw7)
          rw [show str [] = .string ⟨#[]⟩ from rfl, bin_node (by decide)] at HPU
          obtain ⟨n2, hn2⟩ : ∃ n2, n2 = ((ns ++ flat ns.length x) ++ flat (ns ++ flat ns.length x).length y).length := ⟨_, rfl⟩
          rw [← hn2] at HPU
          have HN2 := Lib.hid hn2
          obtain ⟨⟨k0, k1, k2, k3, k4⟩, ⟨f1, f2, f3, f4⟩, hg7⟩ := hrd.blk.five'
          clear hpost hr hrd hk hgb hn2 hfw7
          go_wp2_with fail
          refine HPU.out.mono ?_
          rintro e w8 ⟨nv8, rfl, hk8, hr8⟩
          have HF : Hid (LoR g ts tv ns nv lg w C op [42] [47] 8 9 a b' w8) := Lib.hid (.inr ⟨f1' - 1, .bin 8 x y, nv8, HI.out.next HCE.out hys hr8 HN1.out HN2.out HK6.out HK7.out hk8⟩)
          clear hk8 hr8
          go_wp2_with fail
          go_roundg (ts.length - b')
          case rel => exact ⟨b', rfl, HF.out⟩
          case measure => rw [HGG.out]; omega
set_option maxHeartbeats 4000000 in
set_option maxRecDepth 100000 in
/-- sum, with fuel enough. -/
theorem rsum_any (g : Nat) (ts : List Tok) (tv : Value) (hfi : ∀ t ∈ ts, TokFine t) (f : Nat) : ∀ a, ts.length < a + f → SumR g ts tv f a := by
  induction f with
  | zero => intro a ha w ns lg nv h; have := h.le; omega
  | succ f ih =>
    intro a ha w ns lg nv h
    have HOP : Hid (∀ a', a ≤ a' → ∀ w ns lg nv, RdR g w ts a' false ns lg tv nv → Calls Tryz.prog 66 #[.pointer (some ⟨g, 0, none⟩)] w (OpPostR g ts tv ns nv lg (pProd (pSum ts f) ts a') w)) :=
      Lib.hid (fun a' ha w ns lg nv h => rproduct_any g ts tv f a' hfi (fun b hb => ih b (by omega)) w ns lg nv h)
    have HG := Lib.hid (pProd_good (pSum_good ts f))
    obtain ⟨C, hC⟩ : ∃ C, chainP (pProd (pSum ts f) ts) ts [43] [45] 6 7 a = C := ⟨_, rfl⟩
    rw [show pSum ts (f + 1) a = chainP (pProd (pSum ts f) ts) ts [43] [45] 6 7 a from rfl, hC]
    generalize pProd (pSum ts f) ts = op at *
    clear ih hfi ha
    have HI1 := Lib.hid (fun W a bad ns lg nv h => is_any g W ts a bad ns lg tv nv [43] h)
    have HI2 := Lib.hid (fun W a bad ns lg nv h => is_any g W ts a bad ns lg tv nv [45] h)
    rw [show str [43] = .string ⟨#[43]⟩ from rfl] at HI1
    rw [show str [45] = .string ⟨#[45]⟩ from rfl] at HI2
    have hle := h.le
    have hmax := h.max
    have hfew := h.few
    have HC : Hid (∀ r, op a = r → C = match r with | (none, b) => (none, b) | (some x, b) => chainGo op ts [43] [45] 6 7 ts.length x b) := Lib.hid (fun r hr => by rw [← hC]; unfold chainP; rw [hr] <;> (obtain ⟨_ | x, b⟩ := r <;> rfl))
    have hga := HG.out a hle
    have HO := Lib.hid (HOP.out a (Nat.le_refl _) w ns lg nv h)
    clear h hC
    go_enter Tryz.func39, Tryz.ntmps39
    go_wp2_with fail
    refine HO.out.mono ?_
    intro e w3 hpost
    have hst : e = .returned (.tuple #[]) ∧ ∃ b, LoR g ts tv ns nv lg w C op [43] [45] 6 7 a b w3 := by
      obtain ⟨r, hr⟩ : ∃ r, op a = r := ⟨_, rfl⟩
      have hC := HC.out r hr
      rw [hr] at hga
      obtain ⟨_ | x, b⟩ := r
      · obtain ⟨rfl, nv1, ns1, lg1, hrd, hk⟩ := hpost.none_ hr
        exact ⟨rfl, b, .inl ⟨hC, nv1, ns1, lg1, hrd, hk⟩⟩
      · obtain ⟨rfl, nv1, hrd, hk⟩ := hpost.some_ hr
        have hgs := hga.2.2 x rfl
        have hgl := hga.1
        simp only at hgs hgl
        exact ⟨rfl, b, .inr ⟨ts.length, x, nv1, hrd, hk, hC, by omega, hgl, by omega⟩⟩
    obtain ⟨rfl, b0, hlo⟩ := hst
    have HLO := Lib.hid hlo
    clear hpost hlo hga HO HC
    go_wp2_with fail
    go_loopg [] (ts.length - b0) (fun gh wr => ∃ b, gh = ts.length - b ∧ LoR g ts tv ns nv lg w C op [43] [45] 6 7 a b wr)
    case atStart => exact ⟨b0, rfl, HLO.out⟩
    case round =>
      obtain ⟨b, hgg, ⟨hcn, nv1, ns1, lg1, hrd, hkr⟩ | ⟨f1', x, nv1, hinv⟩⟩ := hrel
      · have HE := Lib.hid (And.intro hkr hrd)
        have HCN := Lib.hid hcn
        have HB1 := Lib.hid (HI1.out wr b true ns1 lg1 nv1 hrd)
        simp only [Bool.not_true, Bool.false_and] at HB1
        clear hgg hcn hrd hkr HLO
        go_wp2_with fail
        refine HB1.out.mono ?_
        rintro e w4 ⟨rfl, hd⟩
        have HE2 := Lib.hid (And.intro (HE.out.1.trans (KR.of_ext hd.ext)) (HE.out.2.keep hd.ext))
        have HB2 := Lib.hid (HI2.out w4 b true ns1 lg1 nv1 HE2.out.2)
        simp only [Bool.not_true, Bool.false_and] at HB2
        clear hd
        go_wp2_with fail
        refine HB2.out.mono ?_
        rintro e w5 ⟨rfl, hd⟩
        have HE3 := Lib.hid (And.intro (HE2.out.1.trans (KR.of_ext hd.ext)) (HE2.out.2.keep hd.ext))
        clear hd
        go_wp2_with fail
        (try simp only [Exit.inBlock, Exit.then])
        first
          | refine bodyPost_ret (results_none rfl _ _ _) rfl ?_
          | refine bodyPost_end (results_none rfl _ _ _) rfl ?_
        exact OpPostR.mkN HCN.out HE3.out.1 HE3.out.2
      · have HGG := Lib.hid hgg
        have HI := Lib.hid hinv
        have HX1 := Lib.hid (HI1.out wr b false _ _ nv1 hinv.rd)
        simp only [Bool.not_false, Bool.true_and] at HX1
        have hbl := hinv.rd.le
        have hbf := hinv.fuel
        clear hgg hinv HLO
        obtain ⟨u1, hu1⟩ : ∃ u, isS ts b [43] = u := ⟨_, rfl⟩
        rw [hu1] at HX1
        cases u1
        · go_wp2_with fail
          refine HX1.out.mono ?_
          rintro e w3' ⟨rfl, hd⟩
          have HK3 := Lib.hid (KR.of_ext (g := g) (nv := nv1) hd.ext)
          have HR3 := Lib.hid (HI.out.rd.keep hd.ext)
          have HX2 := Lib.hid (HI2.out w3' b false _ _ nv1 HR3.out)
          simp only [Bool.not_false, Bool.true_and] at HX2
          clear hd
          obtain ⟨u2, hu2⟩ : ∃ u, isS ts b [45] = u := ⟨_, rfl⟩
          rw [hu2] at HX2
          cases u2
          · have HDN : Hid (C = (some x, b)) := Lib.hid (by rw [HI.out.eq, chainGo_stop f1' hu1 hu2])
            go_wp2_with fail
            refine HX2.out.mono ?_
            rintro e w4 ⟨rfl, hd⟩
            have HE := Lib.hid (And.intro ((HI.out.kr.trans HK3.out).trans (KR.of_ext hd.ext)) (HR3.out.keep hd.ext))
            clear hd
            go_wp2_with fail
            (try simp only [Exit.inBlock, Exit.then])
            first
              | refine bodyPost_ret (results_none rfl _ _ _) rfl ?_
              | refine bodyPost_end (results_none rfl _ _ _) rfl ?_
            exact OpPostR.mkS HDN.out HE.out.1 HE.out.2
          · have hltb := isS_lt hu2
            have hwb : IntKind.i64.wrap ((b : Int) + 1) = (b : Int) + 1 := IntWalk.i64_in _ (by omega)
            go_wp2_with fail
            refine HX2.out.mono ?_
            rintro e w4 ⟨rfl, hd⟩
            have HK4 := Lib.hid (HK3.out.trans (KR.of_ext hd.ext))
            have HR4 := Lib.hid (HR3.out.keep hd.ext)
            have HX4 := Lib.hid (HI2.out w4 b false _ _ nv1 HR4.out)
            simp only [Bool.not_false, Bool.true_and] at HX4
            rw [hu2] at HX4
            clear hd
            go_wp2_with fail
            refine HX4.out.mono ?_
            rintro e w5 ⟨rfl, hd⟩
            have hr5 := HR4.out.keep hd.ext
            have HR5 := Lib.hid hr5
            have HK5 := Lib.hid (HK4.out.trans (KR.of_ext hd.ext))
            obtain ⟨A2, c2, rfl⟩ := hr5.row.shape
            obtain ⟨n1, hn1⟩ : ∃ n1, n1 = (ns ++ flat ns.length x).length := ⟨_, rfl⟩
            obtain ⟨⟨k0, k1, k2, k3, k4⟩, ⟨f1, f2, f3, f4⟩, hg5⟩ := hr5.blk.five'
            have hsz1 : 1 ≤ n1 := by rw [hn1, nds_len]; have := x.size_pos; omega
            have hfw5 : n1 ≤ b := by rw [hn1]; exact hr5.few
            rw [← hn1] at k3
            have HN1 := Lib.hid hn1
            have hwn : IntKind.i64.wrap ((n1 : Int) - 1) = (n1 : Int) - 1 := IntWalk.i64_in _ (by omega)
            clear hd hr5 hn1
            go_upto_region 7 with fail
            have hst := HR5.out.stepR hltb
            obtain ⟨w6, hw6⟩ : ∃ w6, w6 = w5.setCell ⟨g, 1, none⟩ (.int .i64 ((b : Int) + 1)) := ⟨_, rfl⟩
            rw [← hw6] at hst ⊢
            have HK6 := Lib.hid (HK5.out.trans hst.2)
            have HO2 := Lib.hid (HOP.out (b + 1) (by have := HI.out.lo; omega) w6 _ _ _ hst.1)
            have hgb := HG.out (b + 1) hltb
            obtain ⟨r, hr⟩ : ∃ r, op (b + 1) = r := ⟨_, rfl⟩
            have HCE : Hid (C = chTail op ts [43] [45] 6 7 (f1' - 1) 7 x r) := Lib.hid (by rw [HI.out.eq, chainGo_two (by omega) hu1 hu2, hr])
            rw [hr] at hgb
            clear hst hw6 k0 k1 k2 k3 k4 f1 f2 f3 f4
            go_wp2_with fail
            refine HO2.out.mono ?_
            intro e w7 hpost
            obtain ⟨_ | y, b'⟩ := r
            · obtain ⟨rfl, nv7, ns7, lg7, hrd, hk⟩ := hpost.none_ hr
              have hgl := hgb.1
              simp only at hgl
              have hbn := hgb.2.1
              simp only at hbn
              have HF : Hid (LoR g ts tv ns nv lg w C op [43] [45] 6 7 a b' w7) := Lib.hid (.inl ⟨HCE.out, nv7, ns7, lg7, hrd, (HI.out.kr.trans HK6.out).trans hk⟩)
              obtain ⟨⟨k0, k1, k2, k3, k4⟩, ⟨f1, f2, f3, f4⟩, hg7⟩ := hrd.blk.five'
              clear hpost hr hrd hk hgb
              go_wp2_with fail
              go_roundg (ts.length - b')
              case rel => exact ⟨b', rfl, HF.out⟩
              case measure => rw [HGG.out]; omega
            · obtain ⟨rfl, nv7, hrd, hk⟩ := hpost.some_ hr
              have hys := hgb.2.2 y rfl
              have hbn := hgb.2.1
              simp only at hys hbn
              have HK7 := Lib.hid hk
              have hfw7 : ((ns ++ flat ns.length x) ++ flat (ns ++ flat ns.length x).length y).length + 1 ≤ b' := by have := HI.out.sz; rw [nds_len, nds_len]; omega
              have HPU := Lib.hid (put_any g w7 ts b' false _ _ tv nv7 7 ((n1 : Int) - 1) 0 [] hrd hfw7)
              rw [show str [] = .string ⟨#[]⟩ from rfl, bin_node (by decide)] at HPU
              obtain ⟨n2, hn2⟩ : ∃ n2, n2 = ((ns ++ flat ns.length x) ++ flat (ns ++ flat ns.length x).length y).length := ⟨_, rfl⟩
              rw [← hn2] at HPU
              have HN2 := Lib.hid hn2
              obtain ⟨⟨k0, k1, k2, k3, k4⟩, ⟨f1, f2, f3, f4⟩, hg7⟩ := hrd.blk.five'
              clear hpost hr hrd hk hgb hn2 hfw7
              go_wp2_with fail
              refine HPU.out.mono ?_
              rintro e w8 ⟨nv8, rfl, hk8, hr8⟩
              have HF : Hid (LoR g ts tv ns nv lg w C op [43] [45] 6 7 a b' w8) := Lib.hid (.inr ⟨f1' - 1, .bin 7 x y, nv8, HI.out.next HCE.out hys hr8 HN1.out HN2.out HK6.out HK7.out hk8⟩)
              clear hk8 hr8
              go_wp2_with fail
              go_roundg (ts.length - b')
              case rel => exact ⟨b', rfl, HF.out⟩
              case measure => rw [HGG.out]; omega
        · have hltb := isS_lt hu1
          have hwb : IntKind.i64.wrap ((b : Int) + 1) = (b : Int) + 1 := IntWalk.i64_in _ (by omega)
          have hu2 := isS_not (d := [45]) hu1 (by decide)
          go_wp2_with fail
          refine HX1.out.mono ?_
          rintro e w4 ⟨rfl, hd⟩
          have HK4 := Lib.hid (KR.of_ext (g := g) (nv := nv1) hd.ext)
          have HR4 := Lib.hid (HI.out.rd.keep hd.ext)
          have HX4 := Lib.hid (HI2.out w4 b false _ _ nv1 HR4.out)
          simp only [Bool.not_false, Bool.true_and] at HX4
          rw [hu2] at HX4
          clear hd
          go_wp2_with fail
          refine HX4.out.mono ?_
          rintro e w5 ⟨rfl, hd⟩
          have hr5 := HR4.out.keep hd.ext
          have HR5 := Lib.hid hr5
          have HK5 := Lib.hid (HK4.out.trans (KR.of_ext hd.ext))
          obtain ⟨A2, c2, rfl⟩ := hr5.row.shape
          obtain ⟨n1, hn1⟩ : ∃ n1, n1 = (ns ++ flat ns.length x).length := ⟨_, rfl⟩
          obtain ⟨⟨k0, k1, k2, k3, k4⟩, ⟨f1, f2, f3, f4⟩, hg5⟩ := hr5.blk.five'
          have hsz1 : 1 ≤ n1 := by rw [hn1, nds_len]; have := x.size_pos; omega
          have hfw5 : n1 ≤ b := by rw [hn1]; exact hr5.few
          rw [← hn1] at k3
          have HN1 := Lib.hid hn1
          have hwn : IntKind.i64.wrap ((n1 : Int) - 1) = (n1 : Int) - 1 := IntWalk.i64_in _ (by omega)
          clear hd hr5 hn1
          go_upto_region 7 with fail
          have hst := HR5.out.stepR hltb
          obtain ⟨w6, hw6⟩ : ∃ w6, w6 = w5.setCell ⟨g, 1, none⟩ (.int .i64 ((b : Int) + 1)) := ⟨_, rfl⟩
          rw [← hw6] at hst ⊢
          have HK6 := Lib.hid (HK5.out.trans hst.2)
          have HO2 := Lib.hid (HOP.out (b + 1) (by have := HI.out.lo; omega) w6 _ _ _ hst.1)
          have hgb := HG.out (b + 1) hltb
          obtain ⟨r, hr⟩ : ∃ r, op (b + 1) = r := ⟨_, rfl⟩
          have HCE : Hid (C = chTail op ts [43] [45] 6 7 (f1' - 1) 6 x r) := Lib.hid (by rw [HI.out.eq, chainGo_one (by omega) hu1, hr])
          rw [hr] at hgb
          clear hst hw6 k0 k1 k2 k3 k4 f1 f2 f3 f4
          go_wp2_with fail
          refine HO2.out.mono ?_
          intro e w7 hpost
          obtain ⟨_ | y, b'⟩ := r
          · obtain ⟨rfl, nv7, ns7, lg7, hrd, hk⟩ := hpost.none_ hr
            have hgl := hgb.1
            simp only at hgl
            have hbn := hgb.2.1
            simp only at hbn
            have HF : Hid (LoR g ts tv ns nv lg w C op [43] [45] 6 7 a b' w7) := Lib.hid (.inl ⟨HCE.out, nv7, ns7, lg7, hrd, (HI.out.kr.trans HK6.out).trans hk⟩)
            obtain ⟨⟨k0, k1, k2, k3, k4⟩, ⟨f1, f2, f3, f4⟩, hg7⟩ := hrd.blk.five'
            clear hpost hr hrd hk hgb
            go_wp2_with fail
            go_roundg (ts.length - b')
            case rel => exact ⟨b', rfl, HF.out⟩
            case measure => rw [HGG.out]; omega
          · obtain ⟨rfl, nv7, hrd, hk⟩ := hpost.some_ hr
            have hys := hgb.2.2 y rfl
            have hbn := hgb.2.1
            simp only at hys hbn
            have HK7 := Lib.hid hk
            have hfw7 : ((ns ++ flat ns.length x) ++ flat (ns ++ flat ns.length x).length y).length + 1 ≤ b' := by have := HI.out.sz; rw [nds_len, nds_len]; omega
            have HPU := Lib.hid (put_any g w7 ts b' false _ _ tv nv7 6 ((n1 : Int) - 1) 0 [] hrd hfw7)
            rw [show str [] = .string ⟨#[]⟩ from rfl, bin_node (by decide)] at HPU
            obtain ⟨n2, hn2⟩ : ∃ n2, n2 = ((ns ++ flat ns.length x) ++ flat (ns ++ flat ns.length x).length y).length := ⟨_, rfl⟩
            rw [← hn2] at HPU
            have HN2 := Lib.hid hn2
            obtain ⟨⟨k0, k1, k2, k3, k4⟩, ⟨f1, f2, f3, f4⟩, hg7⟩ := hrd.blk.five'
            clear hpost hr hrd hk hgb hn2 hfw7
            go_wp2_with fail
            refine HPU.out.mono ?_
            rintro e w8 ⟨nv8, rfl, hk8, hr8⟩
            have HF : Hid (LoR g ts tv ns nv lg w C op [43] [45] 6 7 a b' w8) := Lib.hid (.inr ⟨f1' - 1, .bin 6 x y, nv8, HI.out.next HCE.out hys hr8 HN1.out HN2.out HK6.out HK7.out hk8⟩)
            clear hk8 hr8
            go_wp2_with fail
            go_roundg (ts.length - b')
            case rel => exact ⟨b', rfl, HF.out⟩
            case measure => rw [HGG.out]; omega
end Big
end Go.Proofs.YtgopljllknbelaaGreatDoor
/- The reference's Parse. -/
namespace Go.Proofs.YtgopljllknbelaaGreatDoor
namespace Big
open Go.RowKit
set_option maxHeartbeats 2000000 in
set_option maxRecDepth 100000 in
theorem rparse_any (w : World) (s : List UInt8) (hm : MaxV w) : Calls Tryz.prog 22 #[str s] w (ParseP w s) := by
  have HSC := Lib.hid (rscan_any w s hm)
  have HM := Lib.hid hm
  have HFI := Lib.hid (scanT_fine s)
  have hll := scanT_len s
  have HPR : Hid (parseR s = if (scanT s).2.2 ≠ 0 then (none, (scanT s).2.1, (scanT s).2.2)
    else if (pSum (scanT s).1 ((scanT s).1.length + 1) 0).2 < (scanT s).1.length then (none, ((scanT s).1.getD (pSum (scanT s).1 ((scanT s).1.length + 1) 0).2 ⟨0, 0, []⟩).at_, 6)
    else match (pSum (scanT s).1 ((scanT s).1.length + 1) 0).1 with
      | none => (none, s.length, 6)
      | some x => if x.big = false ∧ x.size ≤ 200 ∧ x.depth ≤ 40 then (some x, s.length, 0) else (none, 0, 7)) := Lib.hid rfl
  unfold ScanRes at HSC
  unfold ParseP
  generalize parseR s = R at *
  generalize (scanT s).2.1 = sk at *
  generalize (scanT s).2.2 = se at *
  generalize (scanT s).1 = ts at *
  clear hm
  by_cases he0 : se = 0
  · subst he0
    have hred : (if (0 : Nat) ≠ 0 then ((none : Option Ex), sk, (0 : Nat)) else if (pSum ts (ts.length + 1) 0).2 < ts.length then (none, (ts.getD (pSum ts (ts.length + 1) 0).2 ⟨0, 0, []⟩).at_, 6) else match (pSum ts (ts.length + 1) 0).1 with | none => (none, s.length, 6) | some x => if x.big = false ∧ x.size ≤ 200 ∧ x.depth ≤ 40 then (some x, s.length, 0) else (none, 0, 7)) = (if (pSum ts (ts.length + 1) 0).2 < ts.length then (none, (ts.getD (pSum ts (ts.length + 1) 0).2 ⟨0, 0, []⟩).at_, 6) else match (pSum ts (ts.length + 1) 0).1 with | none => (none, s.length, 6) | some x => if x.big = false ∧ x.size ≤ 200 ∧ x.depth ≤ 40 then (some x, s.length, 0) else (none, 0, 7)) := by rw [if_neg (by simp)]
    have HPR2 := Lib.hid (HPR.out.trans hred)
    clear HPR hred
    have hwell := pSum_well HFI.out (ts.length + 1)
    have hgood := pSum_good ts (ts.length + 1) 0 (Nat.zero_le _)
    have hz : (((0 : Nat) : Int)) = 0 := rfl
    rw [hz] at HSC
    clear hz
    obtain ⟨n, hn⟩ : ∃ n, n = ts.length := ⟨_, rfl⟩
    have HN := Lib.hid hn
    rw [← hn] at HSC
    clear hn
    go_enter Tryz.func22, Tryz.ntmps22
    go_wp2_with fail
    refine HSC.out.mono ?_
    rintro e w1 ⟨v1, rfl, hr1, hx1⟩
    have htr : TokRow w1 v1 ts := TokRow.of (by rw [HN.out] at hr1; exact hr1)
    obtain ⟨A1, c1, rfl⟩ := ownsRow_shape hr1
    obtain ⟨w2, hw2⟩ : ∃ w2, w2 = w1.alloc (.cells #[.slice A1 n c1, .int .i64 0, .bool false, .slice none 0 0, .bool false] 77) := ⟨_, rfl⟩
    have hx12 : Ext w1 w2 := by rw [hw2]; exact (Ext.refl w1).alloc _
    have HX2 := Lib.hid (hx1.trans hx12)
    have HMW := Lib.hid (HM.out.ext (hx1.trans hx12))
    have hrd : RdR w1.heap.size w2 ts 0 false [] false (.slice A1 n c1) (.slice none 0 0) := ⟨by rw [hw2]; exact Blk.new w1 _ _, OwnNd.nil _ _, (TokAt.of htr).below hx12, Nat.zero_le _, Nat.zero_le _, hll⟩
    have HRD := Lib.hid hrd
    have HTA := Lib.hid ((TokAt.of htr).below hx12)
    have HSUM := Lib.hid (rsum_any w1.heap.size ts (.slice A1 n c1) HFI.out (ts.length + 1) 0 (by omega) w2 [] false (.slice none 0 0) hrd)
    have HG1 : Hid (w.heap.size ≤ w1.heap.size) := Lib.hid hx1.size
    clear hr1 hx1 htr hx12 hrd
    go_upto_region 5 with fail
    rw [← hw2]
    clear hw2
    generalize w1.heap.size = g at *
    go_wp2_with fail
    refine HSUM.out.mono ?_
    intro e w3 hpost
    obtain ⟨r, hr⟩ : ∃ r, pSum ts (ts.length + 1) 0 = r := ⟨_, rfl⟩
    rw [hr] at hgood
    have HR := Lib.hid HPR2.out
    rw [hr] at HR
    have hall : ∀ b : Nat, b < ts.length → Hid (∃ A : Addr, True) := fun _ _ => Lib.hid ⟨⟨0, 0, none⟩, trivial⟩
    clear hall
    obtain ⟨_ | x, b⟩ := r
    · obtain ⟨rfl, nv1, ns1, lg1, hrd, hk⟩ := hpost.none_ hr
      have hbw := hk.below (ns := []) (OwnNd.nil _ _) (Nat.le_of_lt HRD.out.blk.lt)
      have HX3 : Hid (Ext w w3) := Lib.hid (HX2.out.more (Below.mono hbw HG1.out))
      obtain ⟨⟨k0, k1, k2, k3, k4⟩, _, hg3⟩ := hrd.blk.five'
      obtain ⟨A9, c9, he9, hc9⟩ := HTA.out.below hbw
      injection he9 with he1 he2 he3
      subst he1
      clear he2 he3
      simp only at HR
      by_cases hb : b < ts.length
      · obtain ⟨bk, hbk, _, _, hcx⟩ := hc9 (by omega)
        clear hc9
        subst hbk
        have q1 := (hcx b hb).2.1
        have hta : (ts.getD b ⟨0, 0, []⟩).at_ = ts[b].at_ := by rw [List.getD_eq_getElem?_getD, List.getElem?_eq_getElem hb]; rfl
        have HRR : Hid (R = (none, ts[b].at_, 6)) := Lib.hid (by rw [HR.out, if_pos hb, hta])
        have hbn : b < n := by rw [HN.out]; exact hb
        have z1 : decide (b < n) = true := decide_eq_true hbn
        generalize ts[b].at_ = ta at *
        clear hpost hr hrd hk hbw hcx hta HR HPR2 hb hgood
        go_wp2_with fail
        go_region
        go_wp2_with fail
        go_ret3
        rw [HRR.out]
        exact ⟨_, rfl, HX3.out.trans (Ext.refl w3).drew, RNd.nil _⟩
      · have HRR : Hid (R = (none, s.length, 6)) := Lib.hid (by rw [HR.out, if_neg hb])
        have hbn : ¬ b < n := by rw [HN.out]; exact hb
        have z1 : decide (b < n) = false := decide_eq_false hbn
        clear hpost hr hrd hk hbw hc9 HR HPR2 hb hgood
        go_wp2_with fail
        go_ret3
        rw [HRR.out]
        exact ⟨_, rfl, HX3.out, RNd.nil _⟩
    · obtain ⟨rfl, nv1, hrd, hk⟩ := hpost.some_ hr
      rw [Bool.false_or] at hrd
      have hw := hwell _ _ _ hr
      have hbw := hk.below (ns := []) (OwnNd.nil _ _) (Nat.le_of_lt HRD.out.blk.lt)
      have HX3 : Hid (Ext w w3) := Lib.hid (HX2.out.more (Below.mono hbw HG1.out))
      obtain ⟨⟨k0, k1, k2, k3, k4⟩, _, hg3⟩ := hrd.blk.five'
      obtain ⟨A9, c9, he9, hc9⟩ := HTA.out.below hbw
      injection he9 with he1 he2 he3
      subst he1
      clear he2 he3
      simp only at HR
      by_cases hb : b < ts.length
      · obtain ⟨bk, hbk, _, _, hcx⟩ := hc9 (by omega)
        clear hc9
        subst hbk
        have q1 := (hcx b hb).2.1
        have hta : (ts.getD b ⟨0, 0, []⟩).at_ = ts[b].at_ := by rw [List.getD_eq_getElem?_getD, List.getElem?_eq_getElem hb]; rfl
        have HRR : Hid (R = (none, ts[b].at_, 6)) := Lib.hid (by rw [HR.out, if_pos hb, hta])
        have hbn : b < n := by rw [HN.out]; exact hb
        have z1 : decide (b < n) = true := decide_eq_true hbn
        generalize ts[b].at_ = ta at *
        clear hpost hr hrd hk hbw hcx hta HR HPR2 hb hgood
        go_wp2_with fail
        go_region
        go_wp2_with fail
        go_ret3
        rw [HRR.out]
        exact ⟨_, rfl, HX3.out.trans (Ext.refl w3).drew, RNd.nil _⟩
      · have hbn : ¬ b < n := by rw [HN.out]; exact hb
        have z1 : decide (b < n) = false := decide_eq_false hbn
        have hrow := hrd.row
        have hfew := hrd.few
        have hble := hrd.le
        rw [List.nil_append, List.length_nil] at hrow hfew
        have HRN := Lib.hid hrow.read
        cases hbg : x.big
        · have hgd := hw.good hbg
          have hvp := validB_flat x hgd
          have HPV := Lib.hid (valid_any w3 nv1 (flat 0 x) hrow.read (by omega) (flat_text_well x hw 0))
          have HRR : Hid (R = if validB (flat 0 x) = true then (some x, s.length, 0) else (none, 0, 7)) := Lib.hid (by
            rw [HR.out, if_neg hb, hvp, hbg]
            simp)
          rw [hbg] at k4
          obtain ⟨A2, c2, m2, rfl, hm2⟩ := hrow.shape3
          generalize validB (flat 0 x) = vb at *
          clear hpost hr hrd hk hbw hc9 HR HPR2 hb hgood hrow hfew hvp hm2 hbg
          cases vb
          · go_wp2_with fail
            refine HPV.out.mono ?_
            rintro e w4 ⟨rfl, hx4⟩
            have HX4 := Lib.hid (HX3.out.trans hx4)
            clear hx4
            go_wp2_with fail
            go_ret3
            rw [HRR.out]
            exact ⟨_, rfl, HX4.out, RNd.nil _⟩
          · go_wp2_with fail
            refine HPV.out.mono ?_
            rintro e w4 ⟨rfl, hx4⟩
            have HX4 := Lib.hid (HX3.out.trans hx4)
            have HRN4 := Lib.hid (HRN.out.ext hx4)
            have hj2 := (hx4.cell (b := g) (o := 3) hg3).trans k3
            clear hx4
            go_wp2_with fail
            go_ret3
            rw [HRR.out]
            exact ⟨_, rfl, HX4.out, HRN4.out⟩
        · have HRR : Hid (R = (none, 0, 7)) := Lib.hid (by
            rw [HR.out, if_neg hb, hbg]
            simp)
          rw [hbg] at k4
          clear hpost hr hrd hk hbw hc9 HR HPR2 hb hgood hrow hfew hbg HRN
          go_wp2_with fail
          go_ret3
          rw [HRR.out]
          exact ⟨_, rfl, HX3.out, RNd.nil _⟩
  · have hse : ((se : Int) != 0) = true := by rw [bne_iff_ne]; omega
    have HR0 : Hid (R = (none, sk, se)) := Lib.hid (by rw [HPR.out, if_pos he0])
    clear HPR HFI
    obtain ⟨sz, hsz⟩ : ∃ sz : Int, sz = (se : Int) := ⟨_, rfl⟩
    rw [← hsz] at hse HSC
    have HSZ := Lib.hid hsz
    clear hsz he0
    go_enter Tryz.func22, Tryz.ntmps22
    go_wp2_with fail
    refine HSC.out.mono ?_
    rintro e w1 ⟨v1, rfl, hr1, hx1⟩
    obtain ⟨A1, c1, rfl⟩ := ownsRow_shape hr1
    have HX1 := Lib.hid hx1
    clear hr1 hx1
    go_wp2_with fail
    go_ret3
    rw [HR0.out]
    exact ⟨_, by rw [HSZ.out]; rfl, HX1.out, RNd.nil _⟩
end Big
end Go.Proofs.YtgopljllknbelaaGreatDoor
/- The reference's Same on nodes; both sides' Parse agree. -/
namespace Go.Proofs.YtgopljllknbelaaGreatDoor
namespace Big
open Go.RowKit
set_option maxRecDepth 100000 in
theorem rsameN_any (w : World) (v u : Value) (l : List Nd) (h : RNd w v l) (h' : RNd w u l) (hn : l.length ≤ 1000000) : Calls Tryz.prog 23 #[v, u] w fun e w' => e = .returned (.bool true) ∧ Dr w w' := by
  obtain ⟨A, c, rfl, H1⟩ := h
  obtain ⟨A', c', rfl, H2⟩ := h'
  have HH1 := Lib.hid H1
  have HH2 := Lib.hid H2
  clear H1 H2
  obtain ⟨n, hnn⟩ : ∃ n, n = l.length := ⟨_, rfl⟩
  have HN := Lib.hid hnn
  rw [← hnn] at hn
  rw [← hnn]
  clear hnn
  go_enter Tryz.func23, Tryz.ntmps23
  go_wp2_with fail
  go_loopw [8] (fun s8 wr => ∃ i : Nat, i ≤ n ∧ s8 = .int .i64 (i : Int) ∧ Dr w wr) (fun s8 _ => n - (intOf s8).toNat)
  case atStart => exact ⟨0, Nat.zero_le _, rfl, Dr.refl w⟩
  case round =>
    obtain ⟨i, hi, rfl, hd⟩ := hrel
    have HD := Lib.hid hd
    by_cases hlt : i < n
    · have hit : i < l.length := by rw [← HN.out]; exact hlt
      obtain ⟨g, o, rfl, hgw, hc⟩ := HH1.out (by omega)
      obtain ⟨g', o', rfl, hgw', hc'⟩ := HH2.out (by omega)
      obtain ⟨k0, k1, k2, k3, k4⟩ := hc i hit
      obtain ⟨j0, j1, j2, j3, j4⟩ := hc' i hit
      rw [← hd.cell] at k0 k1 k2 k3 k4 j0 j1 j2 j3 j4
      clear hc hc' hd
      have hst : str l[i].text = .string ⟨l[i].text.toArray⟩ := rfl
      rw [hst] at k4 j4
      clear hst
      generalize (⟨l[i].text.toArray⟩ : ByteArray) = t at *
      generalize l[i].kind = y0 at *
      generalize l[i].a = y1 at *
      generalize l[i].b = y2 at *
      generalize l[i].n = y3 at *
      have hd0 : decide ((0 : Int) ≤ (i : Int)) = true := by simp
      have hnb : ((n : Int) != (n : Int)) = false := by simp
      go_wp2_with fail
      go_quiet (fail)
      go_wp2_with fail
      go_roundw
      case rel => exact ⟨i + 1, by omega, by go_num, HD.out.drewN _⟩
      case measure => simp [intOf]; omega
    · obtain rfl : i = n := by omega
      clear hd
      have hne : ((i : Int) == (i : Int)) = true := by simp
      go_wp2_with fail
      go_ret
      exact ⟨rfl, HD.out⟩
end Big
end Go.Proofs.YtgopljllknbelaaGreatDoor
/- same, awake. -/
namespace Go.Proofs.YtgopljllknbelaaGreatDoor
namespace Big
open Go.RowKit
theorem parseR_some {s : List UInt8} {x : Ex} {n k : Nat} (h : parseR s = (some x, n, k)) : x.big = false ∧ x.size ≤ 200 ∧ x.depth ≤ 40 ∧ x.Good ∧ n = s.length ∧ k = 0 := by
  unfold parseR at h
  split at h
  · simp at h
  · split at h
    · simp at h
    · rcases hp : pSum (scanT s).1 ((scanT s).1.length + 1) 0 with ⟨_ | y, b⟩
      · rw [hp] at h; simp at h
      · rw [hp] at h
        simp only at h
        split at h
        · rename_i h2
          simp only [Prod.mk.injEq, Option.some.injEq] at h
          obtain ⟨rfl, rfl, rfl⟩ := h
          have hw := pSum_well (scanT_fine s) _ _ _ _ hp
          exact ⟨h2.1, h2.2.1, h2.2.2, hw.good h2.1, rfl, rfl⟩
        · simp at h
theorem RNd.shape {w : World} {v : Value} {l : List Nd} (h : RNd w v l) : ∃ A c, v = .slice A l.length c := by
  obtain ⟨A, c, h, _⟩ := h
  exact ⟨A, c, h⟩
end Big
end Go.Proofs.YtgopljllknbelaaGreatDoor
