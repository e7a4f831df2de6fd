import Derived.Test.YtgopljllknbelaaGreatDoorM27
import Derived.Test.YtgopljllknbelaaGreatDoorM26
import Derived.Test.YtgopljllknbelaaGreatDoorM19
import Derived.Test.YtgopljllknbelaaGreatDoorM21
import Derived.Test.YtgopljllknbelaaGreatDoorM16
import Derived.Laws.StructEq
/- The reference's power. -/
namespace Go.Proofs.YtgopljllknbelaaGreatDoor
namespace Big
open Go.RowKit
theorem big_pow {z : Int} {n : Nat} {x : Ex} (h : z = (n : Int) ∨ z = -(n : Int)) : (Ex.un 10 z x).big = (decide (64 < n) || x.big) := by
  rw [Ex.big]
  have : (!(decide (-64 ≤ z ∧ z ≤ 64))) = decide (64 < n) := by
    rw [← decide_not, decide_eq_decide]
    omega
  rw [this]
  rfl
theorem pow_node {z : Int} {len : Nat} : putN 10 0 z len [] = ⟨10, (len : Int) - 1, 0, z, []⟩ := by
  unfold putN
  rw [if_pos (by decide)]
theorem numN_cases {c : Nat} (h : numN c = true) : (48 ≤ c ∧ c ≤ 57) ∨ c = 46 := by
  unfold numN digN at h
  simp only [Bool.or_eq_true, Bool.and_eq_true, decide_eq_true_eq, beq_iff_eq] at h
  exact h
set_option maxHeartbeats 8000000 in
set_option maxRecDepth 100000 in
theorem rpower_any (g : Nat) (ts : List Tok) (tv : Value) (f a : Nat) (hfi : ∀ t ∈ ts, TokFine t) (hs : ∀ a', a < a' → SumR g ts tv f a') (w : World) (ns : List Nd) (lg : Bool) (nv : Value) (h : RdR g w ts a false ns lg tv nv) :
    Calls Tryz.prog 135 #[.pointer (some ⟨g, 0, none⟩)] w (OpPostR g ts tv ns nv lg (pPower (pSum ts f) ts a) w) := by
  have HAT := Lib.hid (ratom_any g ts tv f a hfi hs w ns lg nv h)
  have hga := pAtom_good (pSum_good ts f) a h.le
  have hmax := h.max
  have HFI := Lib.hid hfi
  clear h hs hfi
  have HI94 := Lib.hid (fun W a bad ns lg nv h => is_any g W ts a bad ns lg tv nv [94] h)
  have HI45 := Lib.hid (fun W a bad ns lg nv h => is_any g W ts a bad ns lg tv nv [45] h)
  rw [show str [94] = .string ⟨#[94]⟩ from rfl] at HI94
  rw [show str [45] = .string ⟨#[45]⟩ from rfl] at HI45
  go_enter Tryz.func135, Tryz.ntmps135
  go_wp2_with fail
  refine HAT.out.mono ?_
  intro e w1 hpost
  obtain ⟨r, hr⟩ : ∃ r, pAtom (pSum ts f) ts a = r := ⟨_, rfl⟩
  rw [hr] at hga
  obtain ⟨_ | x, b⟩ := r
  · obtain ⟨rfl, nv1, ns1, lg1, hrd, hk⟩ := hpost.none_ hr
    have HD := Lib.hid (pPower_none hr)
    have HE := Lib.hid (And.intro hk hrd)
    have HIB := Lib.hid (HI94.out w1 b true ns1 lg1 nv1 hrd)
    simp only [Bool.not_true, Bool.false_and] at HIB
    clear hpost hr hrd hk hga
    go_wp2_with fail
    refine HIB.out.mono ?_
    rintro e w2 ⟨rfl, hd⟩
    have HE2 := Lib.hid (And.intro (HE.out.1.trans (KR.of_ext hd.ext)) (HE.out.2.keep hd.ext))
    clear hd
    go_wp2_with fail
    (try simp only [Exit.inBlock, Exit.then])
    first
      | refine bodyPost_ret (results_none rfl _ _ _) rfl ?_
      | refine bodyPost_end (results_none rfl _ _ _) rfl ?_
    exact OpPostR.mkN HD.out HE2.out.1 HE2.out.2
  · obtain ⟨rfl, nv1, hrd, hk⟩ := hpost.some_ hr
    have hgx := hga.2.2 x rfl
    have hgl := hga.2.1
    simp only at hgx hgl
    have HR := Lib.hid hr
    have HE := Lib.hid (And.intro hk hrd)
    have HIB := Lib.hid (HI94.out w1 b false _ _ nv1 hrd)
    simp only [Bool.not_false, Bool.true_and] at HIB
    clear hpost hr hrd hk hga
    obtain ⟨u1, hu1⟩ : ∃ u, isS ts b [94] = u := ⟨_, rfl⟩
    rw [hu1] at HIB
    cases u1
    · have HD := Lib.hid (pPower_plain HR.out hu1)
      clear hu1
      go_wp2_with fail
      refine HIB.out.mono ?_
      rintro e w2 ⟨rfl, hd⟩
      have HE2 := Lib.hid (And.intro (HE.out.1.trans (KR.of_ext hd.ext)) (HE.out.2.keep hd.ext))
      clear hd
      go_wp2_with fail
      (try simp only [Exit.inBlock, Exit.then])
      first
        | refine bodyPost_ret (results_none rfl _ _ _) rfl ?_
        | refine bodyPost_end (results_none rfl _ _ _) rfl ?_
      exact OpPostR.mkS HD.out HE2.out.1 HE2.out.2
    · have hlb := isS_lt hu1
      have HU1 := Lib.hid hu1
      have hwb : IntKind.i64.wrap ((b : Int) + 1) = (b : Int) + 1 := IntWalk.i64_in _ (by omega)
      clear hu1
      go_wp2_with fail
      refine HIB.out.mono ?_
      rintro e w2 ⟨rfl, hd⟩
      have hr2 := HE.out.2.keep hd.ext
      have HR2 := Lib.hid hr2
      have HK2 := Lib.hid (HE.out.1.trans (KR.of_ext hd.ext))
      obtain ⟨⟨k0, k1, k2, k3, k4⟩, ⟨f1, f2, f3, f4⟩, hg2⟩ := hr2.blk.five'
      clear hd hr2
      go_upto_region 4 with fail
      have hst := HR2.out.stepR hlb
      obtain ⟨w3, hw3⟩ : ∃ w3, w3 = w2.setCell ⟨g, 1, none⟩ (.int .i64 ((b : Int) + 1)) := ⟨_, rfl⟩
      rw [← hw3] at hst ⊢
      have HK3 := Lib.hid (HK2.out.trans hst.2)
      have HR3 := Lib.hid hst.1
      have HIM := Lib.hid (HI45.out w3 (b + 1) false _ _ nv1 hst.1)
      simp only [Bool.not_false, Bool.true_and] at HIM
      clear hst hw3 k0 k1 k2 k3 k4 f1 f2 f3 f4
      obtain ⟨u2, hu2⟩ : ∃ u, isS ts (b + 1) [45] = u := ⟨_, rfl⟩
      rw [hu2] at HIM
      cases u2
      · have HU2 := Lib.hid hu2
        clear hu2
        go_wp2_with fail
        refine HIM.out.mono ?_
        rintro e w5 ⟨rfl, hd⟩
        have HR5 := Lib.hid (HR3.out.keep hd.ext)
        have HK5 := Lib.hid (HK3.out.trans (KR.of_ext hd.ext))
        clear hd
        obtain ⟨c1, hc1⟩ : ∃ c1, c1 = b + 1 := ⟨_, rfl⟩
        rw [← hc1] at HR5
        have HC1 := Lib.hid hc1
        have HBAD : Hid (expo ts c1 = none → pPower (pSum ts f) ts a = (none, c1)) := Lib.hid (fun h => by rw [hc1] at h ⊢; exact pPower_posbad HR.out HU1.out HU2.out h)
        obtain ⟨A, c0, rfl, hcell⟩ := HR5.out.tok
        have hle5 := HR5.out.le
        have hfw5 := HR5.out.few
        obtain ⟨⟨k0, k1, k2, k3, k4⟩, ⟨f1, f2, f3, f4⟩, hg5⟩ := HR5.out.blk.five'
        obtain ⟨n, hnt⟩ : ∃ n, n = ts.length := ⟨_, rfl⟩
        rw [← hnt] at k0 hle5 hmax
        have HNT := Lib.hid hnt
        have hcells := hcell
        clear hnt hc1 hcell
        generalize hlx : (lg || x.big) = lgx at *
        have HLX := Lib.hid hlx
        clear hlx
        rcases Nat.lt_or_ge c1 n with hlt | hge
        · have hlt2 : c1 < ts.length := by rw [← HNT.out]; exact hlt
          obtain ⟨bt, hbt, hbg, hbw, hc⟩ := hcells (by omega)
          subst hbt
          obtain ⟨q0, q1, q2⟩ := hc c1 hlt2
          have hI : expo ts c1 = if ts[c1].kind = 1 then digits2 ts[c1].text else none := by
            unfold expo
            rw [List.getElem?_eq_getElem hlt2]
          have hfine : ts[c1].kind = 1 → runLen numN ts[c1].text = ts[c1].text.length := fun h1 => by
            rcases HFI.out ts[c1] (List.getElem_mem hlt2) with ⟨_, _, h, _⟩ | ⟨h, _⟩ | ⟨h, _⟩
            · exact h
            · omega
            · omega
          have HFN := Lib.hid hfine
          clear hc hfine hcells
          generalize ts[c1].kind = tk at *
          generalize ts[c1].text = tx at *
          have z1 : decide (n ≤ c1) = false := decide_eq_false (by omega)
          by_cases hk : tk = 1
          · subst hk
            rw [if_pos rfl] at hI
            by_cases hl2 : tx.length ≤ 2
            · have z2 : decide (2 < tx.length) = false := decide_eq_false (by omega)
              have z3 : ¬ (2 : Int) < (tx.length : Int) := by omega
              have hrun := HFN.out rfl
              have HRUN := Lib.hid hrun
              obtain ⟨cf, hcf⟩ : ∃ cf : World → Nat, ∀ W : World, (convert 9 65 (str tx)).run Tryz.prog W = .ok (.slice (some ⟨W.heap.size, 0, none⟩) tx.length (cf W)) (bytesAt W tx) :=
                ⟨fun W => Classical.choose (run_bytesAt W tx), fun W => (Classical.choose_spec (run_bytesAt W tx)).1⟩
              clear hrun
              go_wp2_with fail
              go_quiet (fail)
              obtain ⟨w6, hw6⟩ : ∃ w6, w6 = w5.drewN nq := ⟨_, rfl⟩
              rw [← hw6]
              have hd : Dr w5 w6 := by rw [hw6]; exact (Dr.refl w5).drewN _
              rw [← hd.cell] at k0 k1 k2 k3 k4 q0 q1 q2
              have HX6 := Lib.hid ((hd.ext.trans (Ext.refl w6).drew).trans (bytesAt_ext w6.drew tx))
              have HI := Lib.hid hI
              have HCL : Hid (∀ j, j < tx.length → (bytesAt w6.drew tx).cell? ⟨w6.heap.size, j, none⟩ = some (.int .u8 (byteAt tx j : Int))) := Lib.hid (fun j hj => bytesAt_cell w6.drew tx j hj)
              clear hw6 hd hI
              go_upto_region 10 with fail
              go_region
              clear hcf k0 k1 k2 k3 k4 f1 f2 f3 f4 q0 q1 q2 z1 z2 z3
              generalize bytesAt w6.drew tx = wb at *
              generalize w6.heap.size = gb at *
              generalize cf w6.drew = cb at *
              have hrb := HR5.out.keep HX6.out
              have HRB := Lib.hid hrb
              have HKB := Lib.hid (HK5.out.trans (KR.of_ext HX6.out))
              obtain ⟨⟨k0, k1, k2, k3, k4⟩, ⟨f1, f2, f3, f4⟩, hgb⟩ := hrb.blk.five'
              clear hrb
              go_wp2_with fail
              go_loop [3, 82] (fun s3 s82 => ∃ i : Nat, i ≤ tx.length ∧ s3 = .int .i64 (dval (tx.take i) : Int) ∧ s82 = .int .i64 (i : Int) ∧ Hid ((tx.take i).all (fun c => digN c.toNat) = true)) (fun _ s82 => tx.length - (intOf s82).toNat)
              case atStart => exact ⟨0, Nat.zero_le _, rfl, rfl, Lib.hid rfl⟩
              case round =>
                obtain ⟨i, hi, rfl, rfl, HALL⟩ := hrel
                by_cases hit : i < tx.length
                · have hst := HCL.out i hit
                  have hdl := dval_le i HALL.out hl2
                  have HST := Lib.hid (dval_step tx i hit)
                  have hbe := byteAt_eq tx i hit
                  have HTK := Lib.hid (List.take_succ_eq_append_getElem hit)
                  have hc256 := byteAt_lt tx i
                  have hnum := (runLen_in numN tx i (by rw [HRUN.out]; exact hit)).2
                  rw [← hbe] at hnum
                  have hcc := numN_cases hnum
                  have HBE := Lib.hid hbe
                  obtain ⟨c, hc⟩ : ∃ c, c = byteAt tx i := ⟨_, rfl⟩
                  rw [← hc] at hst hc256 hcc
                  have HCC := Lib.hid hc
                  clear hbe hc hnum
                  generalize hdv : dval (tx.take i) = dv at *
                  have HDV := Lib.hid hdv
                  clear hdv
                  rcases hcc with hdg | rfl
                  · have y1 : ((c : Int) == 46) = false := by rw [beq_eq_false_iff_ne]; omega
                    have y2 : (c == 46) = false := by rw [beq_eq_false_iff_ne]; omega
                    have hwa : IntKind.i64.wrap (10 * (dv : Int)) = ((10 * dv : Nat) : Int) := by rw [IntWalk.i64_in _ (by omega)]; omega
                    have hwc : IntKind.u8.wrap ((c : Int) - 48) = ((c - 48 : Nat) : Int) := by
                      have : IntKind.u8.wrap ((c : Int) - 48) = ((c : Int) - 48) % 256 := rfl
                      rw [this]
                      omega
                    have hwd : IntKind.i64.wrap (((c - 48 : Nat) : Int)) = ((c - 48 : Nat) : Int) := IntWalk.i64_in _ (by omega)
                    obtain ⟨p1, hp1⟩ : ∃ p1, p1 = 10 * dv := ⟨_, rfl⟩
                    obtain ⟨p2, hp2⟩ : ∃ p2, p2 = c - 48 := ⟨_, rfl⟩
                    rw [← hp1] at hwa
                    rw [← hp2] at hwc hwd
                    have hwe : IntKind.i64.wrap ((p1 : Int) + (p2 : Int)) = ((p1 + p2 : Nat) : Int) := by rw [IntWalk.i64_in _ (by omega)]; omega
                    obtain ⟨p3, hp3⟩ : ∃ p3, p3 = p1 + p2 := ⟨_, rfl⟩
                    rw [← hp3] at hwe
                    have HV : Hid (dval (tx.take (i + 1)) = p3) := Lib.hid (by rw [HST.out, ← HBE.out, ← HCC.out, hp3, hp1, hp2])
                    have HA2 : Hid ((tx.take (i + 1)).all (fun c => digN c.toNat) = true) := Lib.hid (by
                      rw [HTK.out, List.all_append, HALL.out, List.all_cons, List.all_nil, ← HBE.out, ← HCC.out]
                      unfold digN
                      simp [hdg.1, hdg.2])
                    clear hp1 hp2 hp3 hdg
                    go_wp2_with fail
                    go_round
                    case rel => exact ⟨i + 1, by omega, by rw [HV.out], by go_num, HA2⟩
                    case measure => simp [intOf]; omega
                  · have HN0 : Hid (pPower (pSum ts f) ts a = (none, c1)) := Lib.hid (HBAD.out (by
                      rw [HI.out]
                      unfold digits2
                      rw [if_neg]
                      intro hh
                      have h2 := List.all_eq_true.1 hh.2 tx[i] (List.getElem_mem hit)
                      rw [← HBE.out, ← HCC.out] at h2
                      revert h2
                      decide))
                    go_wp2_with fail
                    (try simp only [Exit.inBlock, Exit.then])
                    first
                      | refine bodyPost_ret (results_none rfl _ _ _) rfl ?_
                      | refine bodyPost_end (results_none rfl _ _ _) rfl ?_
                    have h3 := HRB.out.fail
                    exact OpPostR.mkN HN0.out (HKB.out.trans h3.2) h3.1
                · obtain rfl : i = tx.length := by omega
                  have hal := HALL.out
                  rw [List.take_of_length_le (Nat.le_refl _)] at hal
                  rw [List.take_of_length_le (Nat.le_refl _)]
                  have hexp : expo ts c1 = some (dval tx) := by
                    rw [HI.out]
                    unfold digits2 dval
                    rw [if_pos ⟨hl2, hal⟩]
                  have hn99 := expo_le hexp
                  obtain ⟨z, hz⟩ : ∃ z : Int, z = (dval tx : Int) := ⟨_, rfl⟩
                  have HGD : Hid (pPower (pSum ts f) ts a = (some (.un 10 z x), c1 + 1)) := Lib.hid (by
                    rw [hz, HC1.out]
                    rw [HC1.out] at hexp
                    exact pPower_pos HR.out HU1.out HU2.out hexp)
                  have HZZ : Hid (z = (dval tx : Int) ∨ z = -(dval tx : Int)) := Lib.hid (by omega)
                  generalize dval tx = dv at *
                  have hwz : IntKind.i64.wrap ((dv : Int)) = z := by rw [IntWalk.i64_in _ (by omega), hz]
                  have hw1 : IntKind.i64.wrap ((c1 : Int) + 1) = (c1 : Int) + 1 := IntWalk.i64_in _ (by omega)
                  clear hal hz hexp
                  go_upto_region 18 with fail
                  have hst := HRB.out.stepR hlt2
                  obtain ⟨w7, hw7⟩ : ∃ w7, w7 = wb.setCell ⟨g, 1, none⟩ (.int .i64 ((c1 : Int) + 1)) := ⟨_, rfl⟩
                  rw [← hw7] at hst ⊢
                  have HK7 := Lib.hid (HKB.out.trans hst.2)
                  have HR7 := Lib.hid hst.1
                  obtain ⟨⟨k0, k1, k2, k3, k4⟩, ⟨f1, f2, f3, f4⟩, hg7⟩ := hst.1.blk.five'
                  clear hst hw7
                  have HL2 : Hid (∀ q, q = (lgx || decide (64 < dv)) → q = (lg || (Ex.un 10 z x).big)) := Lib.hid (fun q hq => by
                    rw [hq, big_pow HZZ.out, ← HLX.out]
                    cases lg <;> cases x.big <;> simp)
                  have fin : ∀ q : Bool, q = (lgx || decide (64 < dv)) → Hid (∃ w8, w8 = w7.setCell ⟨g, 4, none⟩ (.bool q) ∧ RdR g w8 ts (c1 + 1) false (ns ++ flat ns.length x) q _ nv1 ∧ KR g nv nv1 w w8) := fun q _ => Lib.hid (by
                    have h := HR7.out.large q
                    exact ⟨_, rfl, h.1, HK7.out.trans h.2⟩)
                  have hfw8 : (ns ++ flat ns.length x).length + 1 ≤ c1 + 1 := by omega
                  cases lgx
                  · by_cases hq : 64 < dv
                    · have hqd : decide (64 < dv) = true := decide_eq_true hq
                      have hqi : (64 : Int) < (dv : Int) := by omega
                      have hqe : true = (false || decide (64 < dv)) := by rw [hqd]; rfl
                      obtain ⟨w8, hw8, hr8, hk8⟩ := (fin true hqe).out
                      have HQ := Lib.hid (HL2.out true hqe)
                      clear hqe
                      go_upto_region 19 with fail
                      rw [← hw8]
                      have HPU := Lib.hid (put_any g w8 ts (c1 + 1) false _ true _ nv1 10 0 z [] hr8 hfw8)
                      rw [show str [] = .string ⟨#[]⟩ from rfl, pow_node] at HPU
                      have HK8 := Lib.hid hk8
                      clear hw8 hr8 hk8 fin k0 k1 k2 k3 k4 f1 f2 f3 f4
                      go_wp2_with fail
                      refine HPU.out.mono ?_
                      rintro e w9 ⟨nv2, rfl, hk9, hr9⟩
                      have hxp := x.size_pos
                      have HF : Hid (RdR g w9 ts (c1 + 1) false (ns ++ flat ns.length (.un 10 z x)) (lg || (Ex.un 10 z x).big) _ nv2) := Lib.hid (hr9.as HQ.out (by
                        rw [flat_un_snoc, ← List.append_assoc, nds_len, show ((ns.length + x.size - 1 : Nat) : Int) = ((ns.length + x.size : Nat) : Int) - 1 by omega]
                        rfl))
                      have HK9 := Lib.hid (HK8.out.trans hk9)
                      clear hk9 hr9
                      go_wp2_with fail
                      (try simp only [Exit.inBlock, Exit.then])
                      first
                        | refine bodyPost_ret (results_none rfl _ _ _) rfl ?_
                        | refine bodyPost_end (results_none rfl _ _ _) rfl ?_
                      exact OpPostR.mkS HGD.out HK9.out HF.out
                    · have hqd : decide (64 < dv) = false := decide_eq_false hq
                      have hqi : ¬ (64 : Int) < (dv : Int) := by omega
                      have hqe : false = (false || decide (64 < dv)) := by rw [hqd]; rfl
                      obtain ⟨w8, hw8, hr8, hk8⟩ := (fin false hqe).out
                      have HQ := Lib.hid (HL2.out false hqe)
                      clear hqe
                      go_upto_region 19 with fail
                      rw [← hw8]
                      have HPU := Lib.hid (put_any g w8 ts (c1 + 1) false _ false _ nv1 10 0 z [] hr8 hfw8)
                      rw [show str [] = .string ⟨#[]⟩ from rfl, pow_node] at HPU
                      have HK8 := Lib.hid hk8
                      clear hw8 hr8 hk8 fin k0 k1 k2 k3 k4 f1 f2 f3 f4
                      go_wp2_with fail
                      refine HPU.out.mono ?_
                      rintro e w9 ⟨nv2, rfl, hk9, hr9⟩
                      have hxp := x.size_pos
                      have HF : Hid (RdR g w9 ts (c1 + 1) false (ns ++ flat ns.length (.un 10 z x)) (lg || (Ex.un 10 z x).big) _ nv2) := Lib.hid (hr9.as HQ.out (by
                        rw [flat_un_snoc, ← List.append_assoc, nds_len, show ((ns.length + x.size - 1 : Nat) : Int) = ((ns.length + x.size : Nat) : Int) - 1 by omega]
                        rfl))
                      have HK9 := Lib.hid (HK8.out.trans hk9)
                      clear hk9 hr9
                      go_wp2_with fail
                      (try simp only [Exit.inBlock, Exit.then])
                      first
                        | refine bodyPost_ret (results_none rfl _ _ _) rfl ?_
                        | refine bodyPost_end (results_none rfl _ _ _) rfl ?_
                      exact OpPostR.mkS HGD.out HK9.out HF.out
                  · have hqe : true = (true || decide (64 < dv)) := rfl
                    obtain ⟨w8, hw8, hr8, hk8⟩ := (fin true hqe).out
                    have HQ := Lib.hid (HL2.out true hqe)
                    clear hqe
                    go_upto_region 19 with fail
                    rw [← hw8]
                    have HPU := Lib.hid (put_any g w8 ts (c1 + 1) false _ true _ nv1 10 0 z [] hr8 hfw8)
                    rw [show str [] = .string ⟨#[]⟩ from rfl, pow_node] at HPU
                    have HK8 := Lib.hid hk8
                    clear hw8 hr8 hk8 fin k0 k1 k2 k3 k4 f1 f2 f3 f4
                    go_wp2_with fail
                    refine HPU.out.mono ?_
                    rintro e w9 ⟨nv2, rfl, hk9, hr9⟩
                    have hxp := x.size_pos
                    have HF : Hid (RdR g w9 ts (c1 + 1) false (ns ++ flat ns.length (.un 10 z x)) (lg || (Ex.un 10 z x).big) _ nv2) := Lib.hid (hr9.as HQ.out (by
                      rw [flat_un_snoc, ← List.append_assoc, nds_len, show ((ns.length + x.size - 1 : Nat) : Int) = ((ns.length + x.size : Nat) : Int) - 1 by omega]
                      rfl))
                    have HK9 := Lib.hid (HK8.out.trans hk9)
                    clear hk9 hr9
                    go_wp2_with fail
                    (try simp only [Exit.inBlock, Exit.then])
                    first
                      | refine bodyPost_ret (results_none rfl _ _ _) rfl ?_
                      | refine bodyPost_end (results_none rfl _ _ _) rfl ?_
                    exact OpPostR.mkS HGD.out HK9.out HF.out
            · have HN0 : Hid (pPower (pSum ts f) ts a = (none, c1)) := Lib.hid (HBAD.out (by rw [hI]; unfold digits2; rw [if_neg (fun h => hl2 h.1)]))
              have z2 : decide (2 < tx.length) = true := decide_eq_true (by omega)
              have z3 : (2 : Int) < (tx.length : Int) := by omega
              clear hI hl2
              go_wp2_with fail
              go_quiet (fail)
              go_wp2_with fail
              (try simp only [Exit.inBlock, Exit.then])
              first
                | refine bodyPost_ret (results_none rfl _ _ _) rfl ?_
                | refine bodyPost_end (results_none rfl _ _ _) rfl ?_
              have h3 := (HR5.out.keep ((Ext.refl w5).drewN nq)).fail
              exact OpPostR.mkN HN0.out (HK5.out.trans ((KR.of_ext ((Ext.refl w5).drewN nq)).trans h3.2)) h3.1
          · have hk2 : ((tk : Int) != 1) = true := by rw [bne_iff_ne]; omega
            have HN0 : Hid (pPower (pSum ts f) ts a = (none, c1)) := Lib.hid (HBAD.out (by rw [hI, if_neg hk]))
            clear hI hk
            go_wp2_with fail
            go_quiet (fail)
            go_wp2_with fail
            (try simp only [Exit.inBlock, Exit.then])
            first
              | refine bodyPost_ret (results_none rfl _ _ _) rfl ?_
              | refine bodyPost_end (results_none rfl _ _ _) rfl ?_
            have h3 := (HR5.out.keep ((Ext.refl w5).drewN nq)).fail
            exact OpPostR.mkN HN0.out (HK5.out.trans ((KR.of_ext ((Ext.refl w5).drewN nq)).trans h3.2)) h3.1
        · have HN0 : Hid (pPower (pSum ts f) ts a = (none, c1)) := Lib.hid (HBAD.out (by
            unfold expo
            rw [List.getElem?_eq_none (by rw [← HNT.out]; exact hge)]))
          have z1 : decide (n ≤ c1) = true := decide_eq_true hge
          have z2 : (n : Int) ≤ (c1 : Int) := by omega
          clear hcells
          go_wp2_with fail
          go_quiet (fail)
          go_wp2_with fail
          (try simp only [Exit.inBlock, Exit.then])
          first
            | refine bodyPost_ret (results_none rfl _ _ _) rfl ?_
            | refine bodyPost_end (results_none rfl _ _ _) rfl ?_
          have h3 := (HR5.out.keep ((Ext.refl w5).drewN nq)).fail
          exact OpPostR.mkN HN0.out (HK5.out.trans ((KR.of_ext ((Ext.refl w5).drewN nq)).trans h3.2)) h3.1
      · have hlb2 := isS_lt hu2
        have HU2 := Lib.hid hu2
        have hwb2 : IntKind.i64.wrap (((b + 1 : Nat) : Int) + 1) = ((b + 1 : Nat) : Int) + 1 := IntWalk.i64_in _ (by omega)
        clear hu2
        go_wp2_with fail
        refine HIM.out.mono ?_
        rintro e w4 ⟨rfl, hd⟩
        have hr4 := HR3.out.keep hd.ext
        have HR4 := Lib.hid hr4
        have HK4 := Lib.hid (HK3.out.trans (KR.of_ext hd.ext))
        obtain ⟨⟨k0, k1, k2, k3, k4⟩, ⟨f1, f2, f3, f4⟩, hg4⟩ := hr4.blk.five'
        clear hd hr4 hwb
        obtain ⟨b1, hb1⟩ : ∃ b1, b1 = b + 1 := ⟨_, rfl⟩
        rw [← hb1] at k1 hwb2 hlb2
        have HB1 := Lib.hid hb1
        clear hb1
        go_upto_region 7 with fail
        have hst := HR4.out.stepR (by rw [← HB1.out]; exact hlb2)
        rw [← HB1.out] at hst
        obtain ⟨w5, hw5⟩ : ∃ w5, w5 = w4.setCell ⟨g, 1, none⟩ (.int .i64 ((b1 : Int) + 1)) := ⟨_, rfl⟩
        rw [← hw5] at hst ⊢
        rw [HB1.out] at hst
        have HR5 := Lib.hid hst.1
        have HK5 := Lib.hid (HK4.out.trans hst.2)
        clear hst hw5 hlb2 hwb2 k0 k1 k2 k3 k4 f1 f2 f3 f4
        obtain ⟨c1, hc1⟩ : ∃ c1, c1 = b + 1 + 1 := ⟨_, rfl⟩
        rw [← hc1] at HR5
        have HC1 := Lib.hid hc1
        have HBAD : Hid (expo ts c1 = none → pPower (pSum ts f) ts a = (none, c1)) := Lib.hid (fun h => by rw [hc1] at h ⊢; exact pPower_negbad HR.out HU1.out HU2.out h)
        obtain ⟨A, c0, rfl, hcell⟩ := HR5.out.tok
        have hle5 := HR5.out.le
        have hfw5 := HR5.out.few
        obtain ⟨⟨k0, k1, k2, k3, k4⟩, ⟨f1, f2, f3, f4⟩, hg5⟩ := HR5.out.blk.five'
        obtain ⟨n, hnt⟩ : ∃ n, n = ts.length := ⟨_, rfl⟩
        rw [← hnt] at k0 hle5 hmax
        have HNT := Lib.hid hnt
        have hcells := hcell
        clear hnt hc1 hcell
        generalize hlx : (lg || x.big) = lgx at *
        have HLX := Lib.hid hlx
        clear hlx
        rcases Nat.lt_or_ge c1 n with hlt | hge
        · have hlt2 : c1 < ts.length := by rw [← HNT.out]; exact hlt
          obtain ⟨bt, hbt, hbg, hbw, hc⟩ := hcells (by omega)
          subst hbt
          obtain ⟨q0, q1, q2⟩ := hc c1 hlt2
          have hI : expo ts c1 = if ts[c1].kind = 1 then digits2 ts[c1].text else none := by
            unfold expo
            rw [List.getElem?_eq_getElem hlt2]
          have hfine : ts[c1].kind = 1 → runLen numN ts[c1].text = ts[c1].text.length := fun h1 => by
            rcases HFI.out ts[c1] (List.getElem_mem hlt2) with ⟨_, _, h, _⟩ | ⟨h, _⟩ | ⟨h, _⟩
            · exact h
            · omega
            · omega
          have HFN := Lib.hid hfine
          clear hc hfine hcells
          generalize ts[c1].kind = tk at *
          generalize ts[c1].text = tx at *
          have z1 : decide (n ≤ c1) = false := decide_eq_false (by omega)
          by_cases hk : tk = 1
          · subst hk
            rw [if_pos rfl] at hI
            by_cases hl2 : tx.length ≤ 2
            · have z2 : decide (2 < tx.length) = false := decide_eq_false (by omega)
              have z3 : ¬ (2 : Int) < (tx.length : Int) := by omega
              have hrun := HFN.out rfl
              have HRUN := Lib.hid hrun
              obtain ⟨cf, hcf⟩ : ∃ cf : World → Nat, ∀ W : World, (convert 9 65 (str tx)).run Tryz.prog W = .ok (.slice (some ⟨W.heap.size, 0, none⟩) tx.length (cf W)) (bytesAt W tx) :=
                ⟨fun W => Classical.choose (run_bytesAt W tx), fun W => (Classical.choose_spec (run_bytesAt W tx)).1⟩
              clear hrun
              go_wp2_with fail
              go_quiet (fail)
              obtain ⟨w6, hw6⟩ : ∃ w6, w6 = w5.drewN nq := ⟨_, rfl⟩
              rw [← hw6]
              have hd : Dr w5 w6 := by rw [hw6]; exact (Dr.refl w5).drewN _
              rw [← hd.cell] at k0 k1 k2 k3 k4 q0 q1 q2
              have HX6 := Lib.hid ((hd.ext.trans (Ext.refl w6).drew).trans (bytesAt_ext w6.drew tx))
              have HI := Lib.hid hI
              have HCL : Hid (∀ j, j < tx.length → (bytesAt w6.drew tx).cell? ⟨w6.heap.size, j, none⟩ = some (.int .u8 (byteAt tx j : Int))) := Lib.hid (fun j hj => bytesAt_cell w6.drew tx j hj)
              clear hw6 hd hI
              go_upto_region 10 with fail
              go_region
              clear hcf k0 k1 k2 k3 k4 f1 f2 f3 f4 q0 q1 q2 z1 z2 z3
              generalize bytesAt w6.drew tx = wb at *
              generalize w6.heap.size = gb at *
              generalize cf w6.drew = cb at *
              have hrb := HR5.out.keep HX6.out
              have HRB := Lib.hid hrb
              have HKB := Lib.hid (HK5.out.trans (KR.of_ext HX6.out))
              obtain ⟨⟨k0, k1, k2, k3, k4⟩, ⟨f1, f2, f3, f4⟩, hgb⟩ := hrb.blk.five'
              clear hrb
              go_wp2_with fail
              go_loop [3, 82] (fun s3 s82 => ∃ i : Nat, i ≤ tx.length ∧ s3 = .int .i64 (dval (tx.take i) : Int) ∧ s82 = .int .i64 (i : Int) ∧ Hid ((tx.take i).all (fun c => digN c.toNat) = true)) (fun _ s82 => tx.length - (intOf s82).toNat)
              case atStart => exact ⟨0, Nat.zero_le _, rfl, rfl, Lib.hid rfl⟩
              case round =>
                obtain ⟨i, hi, rfl, rfl, HALL⟩ := hrel
                by_cases hit : i < tx.length
                · have hst := HCL.out i hit
                  have hdl := dval_le i HALL.out hl2
                  have HST := Lib.hid (dval_step tx i hit)
                  have hbe := byteAt_eq tx i hit
                  have HTK := Lib.hid (List.take_succ_eq_append_getElem hit)
                  have hc256 := byteAt_lt tx i
                  have hnum := (runLen_in numN tx i (by rw [HRUN.out]; exact hit)).2
                  rw [← hbe] at hnum
                  have hcc := numN_cases hnum
                  have HBE := Lib.hid hbe
                  obtain ⟨c, hc⟩ : ∃ c, c = byteAt tx i := ⟨_, rfl⟩
                  rw [← hc] at hst hc256 hcc
                  have HCC := Lib.hid hc
                  clear hbe hc hnum
                  generalize hdv : dval (tx.take i) = dv at *
                  have HDV := Lib.hid hdv
                  clear hdv
                  rcases hcc with hdg | rfl
                  · have y1 : ((c : Int) == 46) = false := by rw [beq_eq_false_iff_ne]; omega
                    have y2 : (c == 46) = false := by rw [beq_eq_false_iff_ne]; omega
                    have hwa : IntKind.i64.wrap (10 * (dv : Int)) = ((10 * dv : Nat) : Int) := by rw [IntWalk.i64_in _ (by omega)]; omega
                    have hwc : IntKind.u8.wrap ((c : Int) - 48) = ((c - 48 : Nat) : Int) := by
                      have : IntKind.u8.wrap ((c : Int) - 48) = ((c : Int) - 48) % 256 := rfl
                      rw [this]
                      omega
                    have hwd : IntKind.i64.wrap (((c - 48 : Nat) : Int)) = ((c - 48 : Nat) : Int) := IntWalk.i64_in _ (by omega)
                    obtain ⟨p1, hp1⟩ : ∃ p1, p1 = 10 * dv := ⟨_, rfl⟩
                    obtain ⟨p2, hp2⟩ : ∃ p2, p2 = c - 48 := ⟨_, rfl⟩
                    rw [← hp1] at hwa
                    rw [← hp2] at hwc hwd
                    have hwe : IntKind.i64.wrap ((p1 : Int) + (p2 : Int)) = ((p1 + p2 : Nat) : Int) := by rw [IntWalk.i64_in _ (by omega)]; omega
                    obtain ⟨p3, hp3⟩ : ∃ p3, p3 = p1 + p2 := ⟨_, rfl⟩
                    rw [← hp3] at hwe
                    have HV : Hid (dval (tx.take (i + 1)) = p3) := Lib.hid (by rw [HST.out, ← HBE.out, ← HCC.out, hp3, hp1, hp2])
                    have HA2 : Hid ((tx.take (i + 1)).all (fun c => digN c.toNat) = true) := Lib.hid (by
                      rw [HTK.out, List.all_append, HALL.out, List.all_cons, List.all_nil, ← HBE.out, ← HCC.out]
                      unfold digN
                      simp [hdg.1, hdg.2])
                    clear hp1 hp2 hp3 hdg
                    go_wp2_with fail
                    go_round
                    case rel => exact ⟨i + 1, by omega, by rw [HV.out], by go_num, HA2⟩
                    case measure => simp [intOf]; omega
                  · have HN0 : Hid (pPower (pSum ts f) ts a = (none, c1)) := Lib.hid (HBAD.out (by
                      rw [HI.out]
                      unfold digits2
                      rw [if_neg]
                      intro hh
                      have h2 := List.all_eq_true.1 hh.2 tx[i] (List.getElem_mem hit)
                      rw [← HBE.out, ← HCC.out] at h2
                      revert h2
                      decide))
                    go_wp2_with fail
                    (try simp only [Exit.inBlock, Exit.then])
                    first
                      | refine bodyPost_ret (results_none rfl _ _ _) rfl ?_
                      | refine bodyPost_end (results_none rfl _ _ _) rfl ?_
                    have h3 := HRB.out.fail
                    exact OpPostR.mkN HN0.out (HKB.out.trans h3.2) h3.1
                · obtain rfl : i = tx.length := by omega
                  have hal := HALL.out
                  rw [List.take_of_length_le (Nat.le_refl _)] at hal
                  rw [List.take_of_length_le (Nat.le_refl _)]
                  have hexp : expo ts c1 = some (dval tx) := by
                    rw [HI.out]
                    unfold digits2 dval
                    rw [if_pos ⟨hl2, hal⟩]
                  have hn99 := expo_le hexp
                  obtain ⟨z, hz⟩ : ∃ z : Int, z = -(dval tx : Int) := ⟨_, rfl⟩
                  have HGD : Hid (pPower (pSum ts f) ts a = (some (.un 10 z x), c1 + 1)) := Lib.hid (by
                    rw [hz, HC1.out]
                    rw [HC1.out] at hexp
                    exact pPower_neg HR.out HU1.out HU2.out hexp)
                  have HZZ : Hid (z = (dval tx : Int) ∨ z = -(dval tx : Int)) := Lib.hid (by omega)
                  generalize dval tx = dv at *
                  have hwz : IntKind.i64.wrap (-(dv : Int)) = z := by rw [IntWalk.i64_in _ (by omega), hz]
                  have hw1 : IntKind.i64.wrap ((c1 : Int) + 1) = (c1 : Int) + 1 := IntWalk.i64_in _ (by omega)
                  clear hal hz hexp
                  go_upto_region 18 with fail
                  have hst := HRB.out.stepR hlt2
                  obtain ⟨w7, hw7⟩ : ∃ w7, w7 = wb.setCell ⟨g, 1, none⟩ (.int .i64 ((c1 : Int) + 1)) := ⟨_, rfl⟩
                  rw [← hw7] at hst ⊢
                  have HK7 := Lib.hid (HKB.out.trans hst.2)
                  have HR7 := Lib.hid hst.1
                  obtain ⟨⟨k0, k1, k2, k3, k4⟩, ⟨f1, f2, f3, f4⟩, hg7⟩ := hst.1.blk.five'
                  clear hst hw7
                  have HL2 : Hid (∀ q, q = (lgx || decide (64 < dv)) → q = (lg || (Ex.un 10 z x).big)) := Lib.hid (fun q hq => by
                    rw [hq, big_pow HZZ.out, ← HLX.out]
                    cases lg <;> cases x.big <;> simp)
                  have fin : ∀ q : Bool, q = (lgx || decide (64 < dv)) → Hid (∃ w8, w8 = w7.setCell ⟨g, 4, none⟩ (.bool q) ∧ RdR g w8 ts (c1 + 1) false (ns ++ flat ns.length x) q _ nv1 ∧ KR g nv nv1 w w8) := fun q _ => Lib.hid (by
                    have h := HR7.out.large q
                    exact ⟨_, rfl, h.1, HK7.out.trans h.2⟩)
                  have hfw8 : (ns ++ flat ns.length x).length + 1 ≤ c1 + 1 := by omega
                  cases lgx
                  · by_cases hq : 64 < dv
                    · have hqd : decide (64 < dv) = true := decide_eq_true hq
                      have hqi : (64 : Int) < (dv : Int) := by omega
                      have hqe : true = (false || decide (64 < dv)) := by rw [hqd]; rfl
                      obtain ⟨w8, hw8, hr8, hk8⟩ := (fin true hqe).out
                      have HQ := Lib.hid (HL2.out true hqe)
                      clear hqe
                      go_upto_region 19 with fail
                      rw [← hw8]
                      have HPU := Lib.hid (put_any g w8 ts (c1 + 1) false _ true _ nv1 10 0 z [] hr8 hfw8)
                      rw [show str [] = .string ⟨#[]⟩ from rfl, pow_node] at HPU
                      have HK8 := Lib.hid hk8
                      clear hw8 hr8 hk8 fin k0 k1 k2 k3 k4 f1 f2 f3 f4
                      go_wp2_with fail
                      refine HPU.out.mono ?_
                      rintro e w9 ⟨nv2, rfl, hk9, hr9⟩
                      have hxp := x.size_pos
                      have HF : Hid (RdR g w9 ts (c1 + 1) false (ns ++ flat ns.length (.un 10 z x)) (lg || (Ex.un 10 z x).big) _ nv2) := Lib.hid (hr9.as HQ.out (by
                        rw [flat_un_snoc, ← List.append_assoc, nds_len, show ((ns.length + x.size - 1 : Nat) : Int) = ((ns.length + x.size : Nat) : Int) - 1 by omega]
                        rfl))
                      have HK9 := Lib.hid (HK8.out.trans hk9)
                      clear hk9 hr9
                      go_wp2_with fail
                      (try simp only [Exit.inBlock, Exit.then])
                      first
                        | refine bodyPost_ret (results_none rfl _ _ _) rfl ?_
                        | refine bodyPost_end (results_none rfl _ _ _) rfl ?_
                      exact OpPostR.mkS HGD.out HK9.out HF.out
                    · have hqd : decide (64 < dv) = false := decide_eq_false hq
                      have hqi : ¬ (64 : Int) < (dv : Int) := by omega
                      have hqe : false = (false || decide (64 < dv)) := by rw [hqd]; rfl
                      obtain ⟨w8, hw8, hr8, hk8⟩ := (fin false hqe).out
                      have HQ := Lib.hid (HL2.out false hqe)
                      clear hqe
                      go_upto_region 19 with fail
                      rw [← hw8]
                      have HPU := Lib.hid (put_any g w8 ts (c1 + 1) false _ false _ nv1 10 0 z [] hr8 hfw8)
                      rw [show str [] = .string ⟨#[]⟩ from rfl, pow_node] at HPU
                      have HK8 := Lib.hid hk8
                      clear hw8 hr8 hk8 fin k0 k1 k2 k3 k4 f1 f2 f3 f4
                      go_wp2_with fail
                      refine HPU.out.mono ?_
                      rintro e w9 ⟨nv2, rfl, hk9, hr9⟩
                      have hxp := x.size_pos
                      have HF : Hid (RdR g w9 ts (c1 + 1) false (ns ++ flat ns.length (.un 10 z x)) (lg || (Ex.un 10 z x).big) _ nv2) := Lib.hid (hr9.as HQ.out (by
                        rw [flat_un_snoc, ← List.append_assoc, nds_len, show ((ns.length + x.size - 1 : Nat) : Int) = ((ns.length + x.size : Nat) : Int) - 1 by omega]
                        rfl))
                      have HK9 := Lib.hid (HK8.out.trans hk9)
                      clear hk9 hr9
                      go_wp2_with fail
                      (try simp only [Exit.inBlock, Exit.then])
                      first
                        | refine bodyPost_ret (results_none rfl _ _ _) rfl ?_
                        | refine bodyPost_end (results_none rfl _ _ _) rfl ?_
                      exact OpPostR.mkS HGD.out HK9.out HF.out
                  · have hqe : true = (true || decide (64 < dv)) := rfl
                    obtain ⟨w8, hw8, hr8, hk8⟩ := (fin true hqe).out
                    have HQ := Lib.hid (HL2.out true hqe)
                    clear hqe
                    go_upto_region 19 with fail
                    rw [← hw8]
                    have HPU := Lib.hid (put_any g w8 ts (c1 + 1) false _ true _ nv1 10 0 z [] hr8 hfw8)
                    rw [show str [] = .string ⟨#[]⟩ from rfl, pow_node] at HPU
                    have HK8 := Lib.hid hk8
                    clear hw8 hr8 hk8 fin k0 k1 k2 k3 k4 f1 f2 f3 f4
                    go_wp2_with fail
                    refine HPU.out.mono ?_
                    rintro e w9 ⟨nv2, rfl, hk9, hr9⟩
                    have hxp := x.size_pos
                    have HF : Hid (RdR g w9 ts (c1 + 1) false (ns ++ flat ns.length (.un 10 z x)) (lg || (Ex.un 10 z x).big) _ nv2) := Lib.hid (hr9.as HQ.out (by
                      rw [flat_un_snoc, ← List.append_assoc, nds_len, show ((ns.length + x.size - 1 : Nat) : Int) = ((ns.length + x.size : Nat) : Int) - 1 by omega]
                      rfl))
                    have HK9 := Lib.hid (HK8.out.trans hk9)
                    clear hk9 hr9
                    go_wp2_with fail
                    (try simp only [Exit.inBlock, Exit.then])
                    first
                      | refine bodyPost_ret (results_none rfl _ _ _) rfl ?_
                      | refine bodyPost_end (results_none rfl _ _ _) rfl ?_
                    exact OpPostR.mkS HGD.out HK9.out HF.out
            · have HN0 : Hid (pPower (pSum ts f) ts a = (none, c1)) := Lib.hid (HBAD.out (by rw [hI]; unfold digits2; rw [if_neg (fun h => hl2 h.1)]))
              have z2 : decide (2 < tx.length) = true := decide_eq_true (by omega)
              have z3 : (2 : Int) < (tx.length : Int) := by omega
              clear hI hl2
              go_wp2_with fail
              go_quiet (fail)
              go_wp2_with fail
              (try simp only [Exit.inBlock, Exit.then])
              first
                | refine bodyPost_ret (results_none rfl _ _ _) rfl ?_
                | refine bodyPost_end (results_none rfl _ _ _) rfl ?_
              have h3 := (HR5.out.keep ((Ext.refl w5).drewN nq)).fail
              exact OpPostR.mkN HN0.out (HK5.out.trans ((KR.of_ext ((Ext.refl w5).drewN nq)).trans h3.2)) h3.1
          · have hk2 : ((tk : Int) != 1) = true := by rw [bne_iff_ne]; omega
            have HN0 : Hid (pPower (pSum ts f) ts a = (none, c1)) := Lib.hid (HBAD.out (by rw [hI, if_neg hk]))
            clear hI hk
            go_wp2_with fail
            go_quiet (fail)
            go_wp2_with fail
            (try simp only [Exit.inBlock, Exit.then])
            first
              | refine bodyPost_ret (results_none rfl _ _ _) rfl ?_
              | refine bodyPost_end (results_none rfl _ _ _) rfl ?_
            have h3 := (HR5.out.keep ((Ext.refl w5).drewN nq)).fail
            exact OpPostR.mkN HN0.out (HK5.out.trans ((KR.of_ext ((Ext.refl w5).drewN nq)).trans h3.2)) h3.1
        · have HN0 : Hid (pPower (pSum ts f) ts a = (none, c1)) := Lib.hid (HBAD.out (by
            unfold expo
            rw [List.getElem?_eq_none (by rw [← HNT.out]; exact hge)]))
          have z1 : decide (n ≤ c1) = true := decide_eq_true hge
          have z2 : (n : Int) ≤ (c1 : Int) := by omega
          clear hcells
          go_wp2_with fail
          go_quiet (fail)
          go_wp2_with fail
          (try simp only [Exit.inBlock, Exit.then])
          first
            | refine bodyPost_ret (results_none rfl _ _ _) rfl ?_
            | refine bodyPost_end (results_none rfl _ _ _) rfl ?_
          have h3 := (HR5.out.keep ((Ext.refl w5).drewN nq)).fail
          exact OpPostR.mkN HN0.out (HK5.out.trans ((KR.of_ext ((Ext.refl w5).drewN nq)).trans h3.2)) h3.1
end Big
end Go.Proofs.YtgopljllknbelaaGreatDoor
/- The reference's minus, product, sum. -/
namespace Go.Proofs.YtgopljllknbelaaGreatDoor
namespace Big
open Go.RowKit
section
variable {p : Nat → Option Ex × Nat} {ts : List Tok} {a b : Nat} {x : Ex}
theorem pMinus_noS (h : isS ts a [45] = false) : pMinus p ts a = pPower p ts a := by
  unfold pMinus
  rw [M_no h, Nat.add_zero]
  rcases pPower p ts a with ⟨_ | x, b⟩ <;> rfl
theorem pMinus_yesN (h : isS ts a [45] = true) (hr : pMinus p ts (a + 1) = (none, b)) : pMinus p ts a = (none, b) := by
  unfold pMinus at hr ⊢
  rw [M_yes h, show a + (minusRun ts ts.length (a + 1) + 1) = a + 1 + minusRun ts ts.length (a + 1) by omega]
  rcases h2 : pPower p ts (a + 1 + minusRun ts ts.length (a + 1)) with ⟨_ | x, b⟩
  · rw [h2] at hr; exact hr
  · rw [h2] at hr; simp at hr
theorem pMinus_yesS (h : isS ts a [45] = true) (hr : pMinus p ts (a + 1) = (some x, b)) : pMinus p ts a = (some (.un 5 0 x), b) := by
  unfold pMinus at hr ⊢
  rw [M_yes h, show a + (minusRun ts ts.length (a + 1) + 1) = a + 1 + minusRun ts ts.length (a + 1) by omega]
  rcases h2 : pPower p ts (a + 1 + minusRun ts ts.length (a + 1)) with ⟨_ | y, b'⟩
  · rw [h2] at hr; simp at hr
  · rw [h2] at hr
    simp only [Prod.mk.injEq, Option.some.injEq] at hr ⊢
    obtain ⟨rfl, rfl⟩ := hr
    exact ⟨negs_succ _ _, rfl⟩
end
theorem neg_node {len : Nat} : putN 5 0 0 len [] = ⟨5, (len : Int) - 1, 0, 0, []⟩ := by
  unfold putN
  rw [if_pos (by decide)]
theorem bin_node {k first : Int} (hk : operI k = 2) {len : Nat} : putN k first 0 len [] = ⟨k, first, (len : Int) - 1, 0, []⟩ := by
  unfold putN
  rw [if_neg (by rw [hk]; decide), if_pos hk]
set_option maxRecDepth 100000 in
theorem rminus_any (g : Nat) (ts : List Tok) (tv : Value) (f : Nat) (hfi : ∀ t ∈ ts, TokFine t) (d : Nat) : ∀ a, ts.length ≤ a + d → (∀ a', a < a' → SumR g ts tv f a') → ∀ (w : World) (ns : List Nd) (lg : Bool) (nv : Value), RdR g w ts a false ns lg tv nv →
    Calls Tryz.prog 100 #[.pointer (some ⟨g, 0, none⟩)] w (OpPostR g ts tv ns nv lg (pMinus (pSum ts f) ts a) w) := by
  induction d with
  | zero =>
    intro a had hs w ns lg nv h
    have hz : isS ts a [45] = false := by
      unfold isS
      rw [List.getElem?_eq_none (by omega)]
    have HM := Lib.hid (pMinus_noS (p := pSum ts f) hz)
    have HIM := Lib.hid (is_any g w ts a false ns lg tv nv [45] h)
    rw [show str [45] = .string ⟨#[45]⟩ from rfl, hz] at HIM
    simp only [Bool.and_false] at HIM
    have HPW := Lib.hid (fun W h => rpower_any g ts tv f a hfi hs W ns lg nv h)
    have HR := Lib.hid h
    clear h hs hz had hfi
    go_enter Tryz.func100, Tryz.ntmps100
    go_wp2_with fail
    refine HIM.out.mono ?_
    rintro e w2 ⟨rfl, hd⟩
    have HE := Lib.hid (And.intro (HR.out.keep hd.ext) (KR.of_ext (g := g) (nv := nv) hd.ext))
    clear hd
    go_wp2_with fail
    refine (HPW.out w2 HE.out.1).mono ?_
    rintro e w3 hpost
    obtain ⟨rfl, nv3, hk3, hm⟩ := hpost
    have HPO : Hid (OpPostR g ts tv ns nv lg (pMinus (pSum ts f) ts a) w (.returned (.tuple #[])) w3) := Lib.hid (by
      rw [HM.out]
      exact ⟨rfl, nv3, HE.out.2.trans hk3, hm⟩)
    clear hk3 hm
    go_wp2_with fail
    (try simp only [Exit.inBlock, Exit.then])
    first
      | refine bodyPost_ret (results_none rfl _ _ _) rfl ?_
      | refine bodyPost_end (results_none rfl _ _ _) rfl ?_
    exact HPO.out
  | succ d ih =>
    intro a had hs w ns lg nv h
    have HIM := Lib.hid (is_any g w ts a false ns lg tv nv [45] h)
    rw [show str [45] = .string ⟨#[45]⟩ from rfl] at HIM
    simp only [Bool.not_false, Bool.true_and] at HIM
    have HR := Lib.hid h
    have HFI := Lib.hid hfi
    obtain ⟨u, hz⟩ : ∃ u, isS ts a [45] = u := ⟨_, rfl⟩
    rw [hz] at HIM
    cases u
    · have HM := Lib.hid (pMinus_noS (p := pSum ts f) hz)
      have HPW := Lib.hid (fun W h => rpower_any g ts tv f a hfi hs W ns lg nv h)
      clear h hs hz had hfi ih
      go_enter Tryz.func100, Tryz.ntmps100
      go_wp2_with fail
      refine HIM.out.mono ?_
      rintro e w2 ⟨rfl, hd⟩
      have HE := Lib.hid (And.intro (HR.out.keep hd.ext) (KR.of_ext (g := g) (nv := nv) hd.ext))
      clear hd
      go_wp2_with fail
      refine (HPW.out w2 HE.out.1).mono ?_
      rintro e w3 hpost
      obtain ⟨rfl, nv3, hk3, hm⟩ := hpost
      have HPO : Hid (OpPostR g ts tv ns nv lg (pMinus (pSum ts f) ts a) w (.returned (.tuple #[])) w3) := Lib.hid (by
        rw [HM.out]
        exact ⟨rfl, nv3, HE.out.2.trans hk3, hm⟩)
      clear hk3 hm
      go_wp2_with fail
      (try simp only [Exit.inBlock, Exit.then])
      first
        | refine bodyPost_ret (results_none rfl _ _ _) rfl ?_
        | refine bodyPost_end (results_none rfl _ _ _) rfl ?_
      exact HPO.out
    · have hlt := isS_lt hz
      have hmax := h.max
      have HIH := Lib.hid (ih (a + 1) (by omega) (fun a' h' => hs a' (by omega)))
      have hga := pMinus_good (pSum_good ts f) (a + 1) hlt
      have HZ := Lib.hid hz
      have hwa : IntKind.i64.wrap ((a : Int) + 1) = (a : Int) + 1 := IntWalk.i64_in _ (by omega)
      clear h hs hz had hfi ih
      go_enter Tryz.func100, Tryz.ntmps100
      go_wp2_with fail
      refine HIM.out.mono ?_
      rintro e w2 ⟨rfl, hd⟩
      have hr2 := HR.out.keep hd.ext
      have HR2 := Lib.hid hr2
      have HK2 := Lib.hid (KR.of_ext (g := g) (nv := nv) hd.ext)
      obtain ⟨⟨k0, k1, k2, k3, k4⟩, ⟨f1, f2, f3, f4⟩, hg2⟩ := hr2.blk.five'
      clear hd hr2
      go_upto_region 2 with fail
      have hst := HR2.out.stepR hlt
      obtain ⟨w3, hw3⟩ : ∃ w3, w3 = w2.setCell ⟨g, 1, none⟩ (.int .i64 ((a : Int) + 1)) := ⟨_, rfl⟩
      rw [← hw3] at hst ⊢
      have HK3 := Lib.hid (HK2.out.trans hst.2)
      have HC3 := Lib.hid (HIH.out w3 ns lg nv hst.1)
      clear hst hw3 k0 k1 k2 k3 k4 f1 f2 f3 f4
      go_wp2_with fail
      refine HC3.out.mono ?_
      intro e w4 hpost
      obtain ⟨r, hr⟩ : ∃ r, pMinus (pSum ts f) ts (a + 1) = r := ⟨_, rfl⟩
      rw [hr] at hga
      obtain ⟨_ | x, b⟩ := r
      · obtain ⟨rfl, nv4, ns4, lg4, hrd, hk⟩ := hpost.none_ hr
        have HD := Lib.hid (pMinus_yesN HZ.out hr)
        have HE := Lib.hid (And.intro (HK3.out.trans hk) hrd)
        obtain ⟨⟨k0, k1, k2, k3, k4⟩, ⟨f1, f2, f3, f4⟩, hg4⟩ := hrd.blk.five'
        clear hpost hr hrd hk hga
        go_wp2_with fail
        (try simp only [Exit.inBlock, Exit.then])
        first
          | refine bodyPost_ret (results_none rfl _ _ _) rfl ?_
          | refine bodyPost_end (results_none rfl _ _ _) rfl ?_
        exact OpPostR.mkN HD.out HE.out.1 HE.out.2
      · obtain ⟨rfl, nv4, hrd, hk⟩ := hpost.some_ hr
        have hgx := hga.2.2 x rfl
        have hgl := hga.2.1
        simp only at hgx hgl
        have HD := Lib.hid (pMinus_yesS HZ.out hr)
        have HK4 := Lib.hid (HK3.out.trans hk)
        have hfw4 : (ns ++ flat ns.length x).length + 1 ≤ b := by have := HR.out.few; rw [nds_len]; omega
        have HPU := Lib.hid (put_any g w4 ts b false _ _ tv nv4 5 0 0 [] hrd hfw4)
        rw [show str [] = .string ⟨#[]⟩ from rfl, neg_node] at HPU
        obtain ⟨⟨k0, k1, k2, k3, k4⟩, ⟨f1, f2, f3, f4⟩, hg4⟩ := hrd.blk.five'
        clear hpost hr hrd hk hga hfw4
        go_wp2_with fail
        refine HPU.out.mono ?_
        rintro e w5 ⟨nv5, rfl, hk5, hr5⟩
        have hxp := x.size_pos
        have hbg : (lg || x.big) = (lg || (Ex.un 5 0 x).big) := by rw [Ex.big]; rfl
        have HF : Hid (RdR g w5 ts b false (ns ++ flat ns.length (.un 5 0 x)) (lg || (Ex.un 5 0 x).big) tv nv5) := Lib.hid (hr5.as hbg (by
          rw [flat_un_snoc, ← List.append_assoc, nds_len, show ((ns.length + x.size - 1 : Nat) : Int) = ((ns.length + x.size : Nat) : Int) - 1 by omega]
          rfl))
        have HK5 := Lib.hid (HK4.out.trans hk5)
        clear hk5 hr5 hbg
        go_wp2_with fail
        (try simp only [Exit.inBlock, Exit.then])
        first
          | refine bodyPost_ret (results_none rfl _ _ _) rfl ?_
          | refine bodyPost_end (results_none rfl _ _ _) rfl ?_
        exact OpPostR.mkS HD.out HK5.out HF.out
/-- What the reference's loops hold behind a good reading. -/
structure ChInvR (g : Nat) (ts : List Tok) (tv : Value) (ns : List Nd) (nv : Value) (lg : Bool) (w : World) (C : Option Ex × Nat) (op : Nat → Option Ex × Nat) (s1 s2 : List UInt8) (k1 k2 a f b : Nat) (x : Ex) (nv' : Value) (wr : World) : Prop where
  rd : RdR g wr ts b false (ns ++ flat ns.length x) (lg || x.big) tv nv'
  kr : KR g nv nv' w wr
  eq : C = chainGo op ts s1 s2 k1 k2 f x b
  fuel : ts.length ≤ b + f
  lo : a ≤ b
  sz : ns.length + x.size ≤ b
theorem ChInvR.next {g : Nat} {ts : List Tok} {tv nv nv1 nv2 nv3 nv4 : Value} {ns : List Nd} {lg : Bool} {w wr w1 w2 w3 : World} {C : Option Ex × Nat} {op : Nat → Option Ex × Nat} {s1 s2 : List UInt8} {k1 k2 a f b b' k n1 n2 : Nat} {x y : Ex}
    (h : ChInvR g ts tv ns nv lg w C op s1 s2 k1 k2 a f b x nv1 wr) (hc : C = chainGo op ts s1 s2 k1 k2 (f - 1) (.bin k x y) b') (hb : b + 1 + y.size ≤ b') (hr : RdR g w3 ts b' false (((ns ++ flat ns.length x) ++ flat (ns ++ flat ns.length x).length y) ++ [⟨(k : Int), (n1 : Int) - 1, (n2 : Int) - 1, 0, []⟩]) ((lg || x.big) || y.big) tv nv4)
    (hn1 : n1 = (ns ++ flat ns.length x).length) (hn2 : n2 = ((ns ++ flat ns.length x) ++ flat (ns ++ flat ns.length x).length y).length)
    (hk1 : KR g nv1 nv2 wr w1) (hk2 : KR g nv2 nv3 w1 w2) (hk3 : KR g nv3 nv4 w2 w3) : ChInvR g ts tv ns nv lg w C op s1 s2 k1 k2 a (f - 1) b' (.bin k x y) nv4 w3 := by
  subst hn1
  subst hn2
  have hx := x.size_pos
  have hy := y.size_pos
  have h1 := h.fuel
  have h2 := h.lo
  have h3 := h.sz
  refine ⟨?_, ((h.kr.trans hk1).trans hk2).trans hk3, hc, by omega, by omega, by rw [Ex.size]; omega⟩
  refine hr.as (by rw [Ex.big, Bool.or_assoc]) ?_
  rw [flat_bin]
  have e1 : (ns ++ flat ns.length x).length = ns.length + x.size := nds_len
  rw [e1]
  have e2 : ((ns ++ flat ns.length x) ++ flat (ns.length + x.size) y).length = ns.length + x.size + y.size := by rw [List.length_append, e1, flat_len]
  rw [e2]
  rw [show ((ns.length + x.size - 1 : Nat) : Int) = ((ns.length + x.size : Nat) : Int) - 1 by omega, show ((ns.length + x.size + y.size - 1 : Nat) : Int) = ((ns.length + x.size + y.size : Nat) : Int) - 1 by omega]
  simp only [List.append_assoc]
/-- What the reference's loops hold. -/
def LoR (g : Nat) (ts : List Tok) (tv : Value) (ns : List Nd) (nv : Value) (lg : Bool) (w : World) (C : Option Ex × Nat) (op : Nat → Option Ex × Nat) (s1 s2 : List UInt8) (k1 k2 a : Nat) (b : Nat) (wr : World) : Prop :=
  (C = (none, b) ∧ ∃ nv' ns' lg', RdR g wr ts b true ns' lg' tv nv' ∧ KR g nv nv' w wr) ∨ ∃ f x nv', ChInvR g ts tv ns nv lg w C op s1 s2 k1 k2 a f b x nv' wr
theorem isS_not {ts : List Tok} {b : Nat} {c d : List UInt8} (h : isS ts b c = true) (hcd : (c == d) = false) : isS ts b d = false := by
  unfold isS at h ⊢
  cases h2 : ts[b]? with
  | none => rfl
  | some t =>
    rw [h2] at h
    simp only [Bool.and_eq_true, beq_iff_eq] at h
    simp only [h.2, hcd, Bool.and_false]
set_option maxHeartbeats 4000000 in
set_option maxRecDepth 100000 in
theorem rproduct_any (g : Nat) (ts : List Tok) (tv : Value) (f a : Nat) (hfi : ∀ t ∈ ts, TokFine t) (hs : ∀ a', a < a' → SumR g ts tv f a') (w : World) (ns : List Nd) (lg : Bool) (nv : Value) (h : RdR g w ts a false ns lg tv nv) :
    Calls Tryz.prog 66 #[.pointer (some ⟨g, 0, none⟩)] w (OpPostR g ts tv ns nv lg (pProd (pSum ts f) ts a) w) := by
  have HOP : Hid (∀ a', a ≤ a' → ∀ w ns lg nv, RdR g w ts a' false ns lg tv nv → Calls Tryz.prog 100 #[.pointer (some ⟨g, 0, none⟩)] w (OpPostR g ts tv ns nv lg (pMinus (pSum ts f) ts a') w)) :=
    Lib.hid (fun a' ha w ns lg nv h => rminus_any g ts tv f hfi ts.length a' (by omega) (fun b hb => hs b (by omega)) w ns lg nv h)
  have HG := Lib.hid (pMinus_good (pSum_good ts f))
  obtain ⟨C, hC⟩ : ∃ C, chainP (pMinus (pSum ts f) ts) ts [42] [47] 8 9 a = C := ⟨_, rfl⟩
  rw [show pProd (pSum ts f) ts a = chainP (pMinus (pSum ts f) ts) ts [42] [47] 8 9 a from rfl, hC]
  generalize pMinus (pSum ts f) ts = op at *
  clear hs hfi
  have HI1 := Lib.hid (fun W a bad ns lg nv h => is_any g W ts a bad ns lg tv nv [42] h)
  have HI2 := Lib.hid (fun W a bad ns lg nv h => is_any g W ts a bad ns lg tv nv [47] h)
  rw [show str [42] = .string ⟨#[42]⟩ from rfl] at HI1
  rw [show str [47] = .string ⟨#[47]⟩ from rfl] at HI2
  have hle := h.le
  have hmax := h.max
  have hfew := h.few
  have HC : Hid (∀ r, op a = r → C = match r with | (none, b) => (none, b) | (some x, b) => chainGo op ts [42] [47] 8 9 ts.length x b) := Lib.hid (fun r hr => by rw [← hC]; unfold chainP; rw [hr] <;> (obtain ⟨_ | x, b⟩ := r <;> rfl))
  have hga := HG.out a hle
  have HO := Lib.hid (HOP.out a (Nat.le_refl _) w ns lg nv h)
  clear h hC
  go_enter Tryz.func66, Tryz.ntmps66
  go_wp2_with fail
  refine HO.out.mono ?_
  intro e w3 hpost
  have hst : e = .returned (.tuple #[]) ∧ ∃ b, LoR g ts tv ns nv lg w C op [42] [47] 8 9 a b w3 := by
    obtain ⟨r, hr⟩ : ∃ r, op a = r := ⟨_, rfl⟩
    have hC := HC.out r hr
    rw [hr] at hga
    obtain ⟨_ | x, b⟩ := r
    · obtain ⟨rfl, nv1, ns1, lg1, hrd, hk⟩ := hpost.none_ hr
      exact ⟨rfl, b, .inl ⟨hC, nv1, ns1, lg1, hrd, hk⟩⟩
    · obtain ⟨rfl, nv1, hrd, hk⟩ := hpost.some_ hr
      have hgs := hga.2.2 x rfl
      have hgl := hga.1
      simp only at hgs hgl
      exact ⟨rfl, b, .inr ⟨ts.length, x, nv1, hrd, hk, hC, by omega, hgl, by omega⟩⟩
  obtain ⟨rfl, b0, hlo⟩ := hst
  have HLO := Lib.hid hlo
  clear hpost hlo hga HO HC
  go_wp2_with fail
  go_loopg [] (ts.length - b0) (fun gh wr => ∃ b, gh = ts.length - b ∧ LoR g ts tv ns nv lg w C op [42] [47] 8 9 a b wr)
  case atStart => exact ⟨b0, rfl, HLO.out⟩
  case round =>
    obtain ⟨b, hgg, ⟨hcn, nv1, ns1, lg1, hrd, hkr⟩ | ⟨f1', x, nv1, hinv⟩⟩ := hrel
    · have HE := Lib.hid (And.intro hkr hrd)
      have HCN := Lib.hid hcn
      have HB1 := Lib.hid (HI1.out wr b true ns1 lg1 nv1 hrd)
      simp only [Bool.not_true, Bool.false_and] at HB1
      clear hgg hcn hrd hkr HLO
      go_wp2_with fail
      refine HB1.out.mono ?_
      rintro e w4 ⟨rfl, hd⟩
      have HE2 := Lib.hid (And.intro (HE.out.1.trans (KR.of_ext hd.ext)) (HE.out.2.keep hd.ext))
      have HB2 := Lib.hid (HI2.out w4 b true ns1 lg1 nv1 HE2.out.2)
      simp only [Bool.not_true, Bool.false_and] at HB2
      clear hd
      go_wp2_with fail
      refine HB2.out.mono ?_
      rintro e w5 ⟨rfl, hd⟩
      have HE3 := Lib.hid (And.intro (HE2.out.1.trans (KR.of_ext hd.ext)) (HE2.out.2.keep hd.ext))
      clear hd
      go_wp2_with fail
      (try simp only [Exit.inBlock, Exit.then])
      first
        | refine bodyPost_ret (results_none rfl _ _ _) rfl ?_
        | refine bodyPost_end (results_none rfl _ _ _) rfl ?_
      exact OpPostR.mkN HCN.out HE3.out.1 HE3.out.2
    · have HGG := Lib.hid hgg
      have HI := Lib.hid hinv
      have HX1 := Lib.hid (HI1.out wr b false _ _ nv1 hinv.rd)
      simp only [Bool.not_false, Bool.true_and] at HX1
      have hbl := hinv.rd.le
      have hbf := hinv.fuel
      clear hgg hinv HLO
      obtain ⟨u1, hu1⟩ : ∃ u, isS ts b [42] = u := ⟨_, rfl⟩
      rw [hu1] at HX1
      cases u1
      · go_wp2_with fail
        refine HX1.out.mono ?_
        rintro e w3' ⟨rfl, hd⟩
        have HK3 := Lib.hid (KR.of_ext (g := g) (nv := nv1) hd.ext)
        have HR3 := Lib.hid (HI.out.rd.keep hd.ext)
        have HX2 := Lib.hid (HI2.out w3' b false _ _ nv1 HR3.out)
        simp only [Bool.not_false, Bool.true_and] at HX2
        clear hd
        obtain ⟨u2, hu2⟩ : ∃ u, isS ts b [47] = u := ⟨_, rfl⟩
        rw [hu2] at HX2
        cases u2
        · have HDN : Hid (C = (some x, b)) := Lib.hid (by rw [HI.out.eq, chainGo_stop f1' hu1 hu2])
          go_wp2_with fail
          refine HX2.out.mono ?_
          rintro e w4 ⟨rfl, hd⟩
          have HE := Lib.hid (And.intro ((HI.out.kr.trans HK3.out).trans (KR.of_ext hd.ext)) (HR3.out.keep hd.ext))
          clear hd
          go_wp2_with fail
          (try simp only [Exit.inBlock, Exit.then])
          first
            | refine bodyPost_ret (results_none rfl _ _ _) rfl ?_
            | refine bodyPost_end (results_none rfl _ _ _) rfl ?_
          exact OpPostR.mkS HDN.out HE.out.1 HE.out.2
        · have hltb := isS_lt hu2
          have hwb : IntKind.i64.wrap ((b : Int) + 1) = (b : Int) + 1 := IntWalk.i64_in _ (by omega)
          go_wp2_with fail
          refine HX2.out.mono ?_
          rintro e w4 ⟨rfl, hd⟩
          have HK4 := Lib.hid (HK3.out.trans (KR.of_ext hd.ext))
          have HR4 := Lib.hid (HR3.out.keep hd.ext)
          have HX4 := Lib.hid (HI2.out w4 b false _ _ nv1 HR4.out)
          simp only [Bool.not_false, Bool.true_and] at HX4
          rw [hu2] at HX4
          clear hd
          go_wp2_with fail
          refine HX4.out.mono ?_
          rintro e w5 ⟨rfl, hd⟩
          have hr5 := HR4.out.keep hd.ext
          have HR5 := Lib.hid hr5
          have HK5 := Lib.hid (HK4.out.trans (KR.of_ext hd.ext))
          obtain ⟨A2, c2, rfl⟩ := hr5.row.shape
          obtain ⟨n1, hn1⟩ : ∃ n1, n1 = (ns ++ flat ns.length x).length := ⟨_, rfl⟩
          obtain ⟨⟨k0, k1, k2, k3, k4⟩, ⟨f1, f2, f3, f4⟩, hg5⟩ := hr5.blk.five'
          have hsz1 : 1 ≤ n1 := by rw [hn1, nds_len]; have := x.size_pos; omega
          have hfw5 : n1 ≤ b := by rw [hn1]; exact hr5.few
          rw [← hn1] at k3
          have HN1 := Lib.hid hn1
          have hwn : IntKind.i64.wrap ((n1 : Int) - 1) = (n1 : Int) - 1 := IntWalk.i64_in _ (by omega)
          clear hd hr5 hn1
          go_upto_region 7 with fail
          have hst := HR5.out.stepR hltb
          obtain ⟨w6, hw6⟩ : ∃ w6, w6 = w5.setCell ⟨g, 1, none⟩ (.int .i64 ((b : Int) + 1)) := ⟨_, rfl⟩
          rw [← hw6] at hst ⊢
          have HK6 := Lib.hid (HK5.out.trans hst.2)
          have HO2 := Lib.hid (HOP.out (b + 1) (by have := HI.out.lo; omega) w6 _ _ _ hst.1)
          have hgb := HG.out (b + 1) hltb
          obtain ⟨r, hr⟩ : ∃ r, op (b + 1) = r := ⟨_, rfl⟩
          have HCE : Hid (C = chTail op ts [42] [47] 8 9 (f1' - 1) 9 x r) := Lib.hid (by rw [HI.out.eq, chainGo_two (by omega) hu1 hu2, hr])
          rw [hr] at hgb
          clear hst hw6 k0 k1 k2 k3 k4 f1 f2 f3 f4
          go_wp2_with fail
          refine HO2.out.mono ?_
          intro e w7 hpost
          obtain ⟨_ | y, b'⟩ := r
          · obtain ⟨rfl, nv7, ns7, lg7, hrd, hk⟩ := hpost.none_ hr
            have hgl := hgb.1
            simp only at hgl
            have hbn := hgb.2.1
            simp only at hbn
            have HF : Hid (LoR g ts tv ns nv lg w C op [42] [47] 8 9 a b' w7) := Lib.hid (.inl ⟨HCE.out, nv7, ns7, lg7, hrd, (HI.out.kr.trans HK6.out).trans hk⟩)
            obtain ⟨⟨k0, k1, k2, k3, k4⟩, ⟨f1, f2, f3, f4⟩, hg7⟩ := hrd.blk.five'
            clear hpost hr hrd hk hgb
            go_wp2_with fail
            go_roundg (ts.length - b')
            case rel => exact ⟨b', rfl, HF.out⟩
            case measure => rw [HGG.out]; omega
          · obtain ⟨rfl, nv7, hrd, hk⟩ := hpost.some_ hr
            have hys := hgb.2.2 y rfl
            have hbn := hgb.2.1
            simp only at hys hbn
            have HK7 := Lib.hid hk
            have hfw7 : ((ns ++ flat ns.length x) ++ flat (ns ++ flat ns.length x).length y).length + 1 ≤ b' := by have := HI.out.sz; rw [nds_len, nds_len]; omega
            have HPU := Lib.hid (put_any g w7 ts b' false _ _ tv nv7 9 ((n1 : Int) - 1) 0 [] hrd hfw7)
            rw [show str [] = .string ⟨#[]⟩ from rfl, bin_node (by decide)] at HPU
            obtain ⟨n2, hn2⟩ : ∃ n2, n2 = ((ns ++ flat ns.length x) ++ flat (ns ++ flat ns.length x).length y).length := ⟨_, rfl⟩
            rw [← hn2] at HPU
            have HN2 := Lib.hid hn2
            obtain ⟨⟨k0, k1, k2, k3, k4⟩, ⟨f1, f2, f3, f4⟩, hg7⟩ := hrd.blk.five'
            clear hpost hr hrd hk hgb hn2 hfw7
            go_wp2_with fail
            refine HPU.out.mono ?_
            rintro e w8 ⟨nv8, rfl, hk8, hr8⟩
            have HF : Hid (LoR g ts tv ns nv lg w C op [42] [47] 8 9 a b' w8) := Lib.hid (.inr ⟨f1' - 1, .bin 9 x y, nv8, HI.out.next HCE.out hys hr8 HN1.out HN2.out HK6.out HK7.out hk8⟩)
            clear hk8 hr8
            go_wp2_with fail
            go_roundg (ts.length - b')
            case rel => exact ⟨b', rfl, HF.out⟩
            case measure => rw [HGG.out]; omega
      · have hltb := isS_lt hu1
        have hwb : IntKind.i64.wrap ((b : Int) + 1) = (b : Int) + 1 := IntWalk.i64_in _ (by omega)
        have hu2 := isS_not (d := [47]) hu1 (by decide)
        go_wp2_with fail
        refine HX1.out.mono ?_
        rintro e w4 ⟨rfl, hd⟩
        have HK4 := Lib.hid (KR.of_ext (g := g) (nv := nv1) hd.ext)
        have HR4 := Lib.hid (HI.out.rd.keep hd.ext)
        have HX4 := Lib.hid (HI2.out w4 b false _ _ nv1 HR4.out)
        simp only [Bool.not_false, Bool.true_and] at HX4
        rw [hu2] at HX4
        clear hd
        go_wp2_with fail
        refine HX4.out.mono ?_
        rintro e w5 ⟨rfl, hd⟩
        have hr5 := HR4.out.keep hd.ext
        have HR5 := Lib.hid hr5
        have HK5 := Lib.hid (HK4.out.trans (KR.of_ext hd.ext))
        obtain ⟨A2, c2, rfl⟩ := hr5.row.shape
        obtain ⟨n1, hn1⟩ : ∃ n1, n1 = (ns ++ flat ns.length x).length := ⟨_, rfl⟩
        obtain ⟨⟨k0, k1, k2, k3, k4⟩, ⟨f1, f2, f3, f4⟩, hg5⟩ := hr5.blk.five'
        have hsz1 : 1 ≤ n1 := by rw [hn1, nds_len]; have := x.size_pos; omega
        have hfw5 : n1 ≤ b := by rw [hn1]; exact hr5.few
        rw [← hn1] at k3
        have HN1 := Lib.hid hn1
        have hwn : IntKind.i64.wrap ((n1 : Int) - 1) = (n1 : Int) - 1 := IntWalk.i64_in _ (by omega)
        clear hd hr5 hn1
        go_upto_region 7 with fail
        have hst := HR5.out.stepR hltb
        obtain ⟨w6, hw6⟩ : ∃ w6, w6 = w5.setCell ⟨g, 1, none⟩ (.int .i64 ((b : Int) + 1)) := ⟨_, rfl⟩
        rw [← hw6] at hst ⊢
        have HK6 := Lib.hid (HK5.out.trans hst.2)
        have HO2 := Lib.hid (HOP.out (b + 1) (by have := HI.out.lo; omega) w6 _ _ _ hst.1)
        have hgb := HG.out (b + 1) hltb
        obtain ⟨r, hr⟩ : ∃ r, op (b + 1) = r := ⟨_, rfl⟩
        have HCE : Hid (C = chTail op ts [42] [47] 8 9 (f1' - 1) 8 x r) := Lib.hid (by rw [HI.out.eq, chainGo_one (by omega) hu1, hr])
        rw [hr] at hgb
        clear hst hw6 k0 k1 k2 k3 k4 f1 f2 f3 f4
        go_wp2_with fail
        refine HO2.out.mono ?_
        intro e w7 hpost
        obtain ⟨_ | y, b'⟩ := r
        · obtain ⟨rfl, nv7, ns7, lg7, hrd, hk⟩ := hpost.none_ hr
          have hgl := hgb.1
          simp only at hgl
          have hbn := hgb.2.1
          simp only at hbn
          have HF : Hid (LoR g ts tv ns nv lg w C op [42] [47] 8 9 a b' w7) := Lib.hid (.inl ⟨HCE.out, nv7, ns7, lg7, hrd, (HI.out.kr.trans HK6.out).trans hk⟩)
          obtain ⟨⟨k0, k1, k2, k3, k4⟩, ⟨f1, f2, f3, f4⟩, hg7⟩ := hrd.blk.five'
          clear hpost hr hrd hk hgb
          go_wp2_with fail
          go_roundg (ts.length - b')
          case rel => exact ⟨b', rfl, HF.out⟩
          case measure => rw [HGG.out]; omega
        · obtain ⟨rfl, nv7, hrd, hk⟩ := hpost.some_ hr
          have hys := hgb.2.2 y rfl
          have hbn := hgb.2.1
          simp only at hys hbn
          have HK7 := Lib.hid hk
          have hfw7 : ((ns ++ flat ns.length x) ++ flat (ns ++ flat ns.length x).length y).length + 1 ≤ b' := by have := HI.out.sz; rw [nds_len, nds_len]; omega
          have HPU := Lib.hid (put_any g w7 ts b' false _ _ tv nv7 8 ((n1 : Int) - 1) 0 [] hrd hfw7)
          rw [show str [] = .string ⟨#[]⟩ from rfl, bin_node (by decide)] at HPU
          obtain ⟨n2, hn2⟩ : ∃ n2, n2 = ((ns ++ flat ns.length x) ++ flat (ns ++ flat ns.length x).length y).length := ⟨_, rfl⟩
          rw [← hn2] at HPU
          have HN2 := Lib.hid hn2
          obtain ⟨⟨k0, k1, k2, k3, k4⟩, ⟨f1, f2, f3, f4⟩, hg7⟩ := hrd.blk.five'
          clear hpost hr hrd hk hgb hn2 hfw7
          go_wp2_with fail
          refine HPU.out.mono ?_
          rintro e w8 ⟨nv8, rfl, hk8, hr8⟩
          have HF : Hid (LoR g ts tv ns nv lg w C op [42] [47] 8 9 a b' w8) := Lib.hid (.inr ⟨f1' - 1, .bin 8 x y, nv8, HI.out.next HCE.out hys hr8 HN1.out HN2.out HK6.out HK7.out hk8⟩)
          clear hk8 hr8
          go_wp2_with fail
          go_roundg (ts.length - b')
          case rel => exact ⟨b', rfl, HF.out⟩
          case measure => rw [HGG.out]; omega
set_option maxHeartbeats 4000000 in
set_option maxRecDepth 100000 in
/-- sum, with fuel enough. -/
theorem rsum_any (g : Nat) (ts : List Tok) (tv : Value) (hfi : ∀ t ∈ ts, TokFine t) (f : Nat) : ∀ a, ts.length < a + f → SumR g ts tv f a := by
  induction f with
  | zero => intro a ha w ns lg nv h; have := h.le; omega
  | succ f ih =>
    intro a ha w ns lg nv h
    have HOP : Hid (∀ a', a ≤ a' → ∀ w ns lg nv, RdR g w ts a' false ns lg tv nv → Calls Tryz.prog 66 #[.pointer (some ⟨g, 0, none⟩)] w (OpPostR g ts tv ns nv lg (pProd (pSum ts f) ts a') w)) :=
      Lib.hid (fun a' ha w ns lg nv h => rproduct_any g ts tv f a' hfi (fun b hb => ih b (by omega)) w ns lg nv h)
    have HG := Lib.hid (pProd_good (pSum_good ts f))
    obtain ⟨C, hC⟩ : ∃ C, chainP (pProd (pSum ts f) ts) ts [43] [45] 6 7 a = C := ⟨_, rfl⟩
    rw [show pSum ts (f + 1) a = chainP (pProd (pSum ts f) ts) ts [43] [45] 6 7 a from rfl, hC]
    generalize pProd (pSum ts f) ts = op at *
    clear ih hfi ha
    have HI1 := Lib.hid (fun W a bad ns lg nv h => is_any g W ts a bad ns lg tv nv [43] h)
    have HI2 := Lib.hid (fun W a bad ns lg nv h => is_any g W ts a bad ns lg tv nv [45] h)
    rw [show str [43] = .string ⟨#[43]⟩ from rfl] at HI1
    rw [show str [45] = .string ⟨#[45]⟩ from rfl] at HI2
    have hle := h.le
    have hmax := h.max
    have hfew := h.few
    have HC : Hid (∀ r, op a = r → C = match r with | (none, b) => (none, b) | (some x, b) => chainGo op ts [43] [45] 6 7 ts.length x b) := Lib.hid (fun r hr => by rw [← hC]; unfold chainP; rw [hr] <;> (obtain ⟨_ | x, b⟩ := r <;> rfl))
    have hga := HG.out a hle
    have HO := Lib.hid (HOP.out a (Nat.le_refl _) w ns lg nv h)
    clear h hC
    go_enter Tryz.func39, Tryz.ntmps39
    go_wp2_with fail
    refine HO.out.mono ?_
    intro e w3 hpost
    have hst : e = .returned (.tuple #[]) ∧ ∃ b, LoR g ts tv ns nv lg w C op [43] [45] 6 7 a b w3 := by
      obtain ⟨r, hr⟩ : ∃ r, op a = r := ⟨_, rfl⟩
      have hC := HC.out r hr
      rw [hr] at hga
      obtain ⟨_ | x, b⟩ := r
      · obtain ⟨rfl, nv1, ns1, lg1, hrd, hk⟩ := hpost.none_ hr
        exact ⟨rfl, b, .inl ⟨hC, nv1, ns1, lg1, hrd, hk⟩⟩
      · obtain ⟨rfl, nv1, hrd, hk⟩ := hpost.some_ hr
        have hgs := hga.2.2 x rfl
        have hgl := hga.1
        simp only at hgs hgl
        exact ⟨rfl, b, .inr ⟨ts.length, x, nv1, hrd, hk, hC, by omega, hgl, by omega⟩⟩
    obtain ⟨rfl, b0, hlo⟩ := hst
    have HLO := Lib.hid hlo
    clear hpost hlo hga HO HC
    go_wp2_with fail
    go_loopg [] (ts.length - b0) (fun gh wr => ∃ b, gh = ts.length - b ∧ LoR g ts tv ns nv lg w C op [43] [45] 6 7 a b wr)
    case atStart => exact ⟨b0, rfl, HLO.out⟩
    case round =>
      obtain ⟨b, hgg, ⟨hcn, nv1, ns1, lg1, hrd, hkr⟩ | ⟨f1', x, nv1, hinv⟩⟩ := hrel
      · have HE := Lib.hid (And.intro hkr hrd)
        have HCN := Lib.hid hcn
        have HB1 := Lib.hid (HI1.out wr b true ns1 lg1 nv1 hrd)
        simp only [Bool.not_true, Bool.false_and] at HB1
        clear hgg hcn hrd hkr HLO
        go_wp2_with fail
        refine HB1.out.mono ?_
        rintro e w4 ⟨rfl, hd⟩
        have HE2 := Lib.hid (And.intro (HE.out.1.trans (KR.of_ext hd.ext)) (HE.out.2.keep hd.ext))
        have HB2 := Lib.hid (HI2.out w4 b true ns1 lg1 nv1 HE2.out.2)
        simp only [Bool.not_true, Bool.false_and] at HB2
        clear hd
        go_wp2_with fail
        refine HB2.out.mono ?_
        rintro e w5 ⟨rfl, hd⟩
        have HE3 := Lib.hid (And.intro (HE2.out.1.trans (KR.of_ext hd.ext)) (HE2.out.2.keep hd.ext))
        clear hd
        go_wp2_with fail
        (try simp only [Exit.inBlock, Exit.then])
        first
          | refine bodyPost_ret (results_none rfl _ _ _) rfl ?_
          | refine bodyPost_end (results_none rfl _ _ _) rfl ?_
        exact OpPostR.mkN HCN.out HE3.out.1 HE3.out.2
      · have HGG := Lib.hid hgg
        have HI := Lib.hid hinv
        have HX1 := Lib.hid (HI1.out wr b false _ _ nv1 hinv.rd)
        simp only [Bool.not_false, Bool.true_and] at HX1
        have hbl := hinv.rd.le
        have hbf := hinv.fuel
        clear hgg hinv HLO
        obtain ⟨u1, hu1⟩ : ∃ u, isS ts b [43] = u := ⟨_, rfl⟩
        rw [hu1] at HX1
        cases u1
        · go_wp2_with fail
          refine HX1.out.mono ?_
          rintro e w3' ⟨rfl, hd⟩
          have HK3 := Lib.hid (KR.of_ext (g := g) (nv := nv1) hd.ext)
          have HR3 := Lib.hid (HI.out.rd.keep hd.ext)
          have HX2 := Lib.hid (HI2.out w3' b false _ _ nv1 HR3.out)
          simp only [Bool.not_false, Bool.true_and] at HX2
          clear hd
          obtain ⟨u2, hu2⟩ : ∃ u, isS ts b [45] = u := ⟨_, rfl⟩
          rw [hu2] at HX2
          cases u2
          · have HDN : Hid (C = (some x, b)) := Lib.hid (by rw [HI.out.eq, chainGo_stop f1' hu1 hu2])
            go_wp2_with fail
            refine HX2.out.mono ?_
            rintro e w4 ⟨rfl, hd⟩
            have HE := Lib.hid (And.intro ((HI.out.kr.trans HK3.out).trans (KR.of_ext hd.ext)) (HR3.out.keep hd.ext))
            clear hd
            go_wp2_with fail
            (try simp only [Exit.inBlock, Exit.then])
            first
              | refine bodyPost_ret (results_none rfl _ _ _) rfl ?_
              | refine bodyPost_end (results_none rfl _ _ _) rfl ?_
            exact OpPostR.mkS HDN.out HE.out.1 HE.out.2
          · have hltb := isS_lt hu2
            have hwb : IntKind.i64.wrap ((b : Int) + 1) = (b : Int) + 1 := IntWalk.i64_in _ (by omega)
            go_wp2_with fail
            refine HX2.out.mono ?_
            rintro e w4 ⟨rfl, hd⟩
            have HK4 := Lib.hid (HK3.out.trans (KR.of_ext hd.ext))
            have HR4 := Lib.hid (HR3.out.keep hd.ext)
            have HX4 := Lib.hid (HI2.out w4 b false _ _ nv1 HR4.out)
            simp only [Bool.not_false, Bool.true_and] at HX4
            rw [hu2] at HX4
            clear hd
            go_wp2_with fail
            refine HX4.out.mono ?_
            rintro e w5 ⟨rfl, hd⟩
            have hr5 := HR4.out.keep hd.ext
            have HR5 := Lib.hid hr5
            have HK5 := Lib.hid (HK4.out.trans (KR.of_ext hd.ext))
            obtain ⟨A2, c2, rfl⟩ := hr5.row.shape
            obtain ⟨n1, hn1⟩ : ∃ n1, n1 = (ns ++ flat ns.length x).length := ⟨_, rfl⟩
            obtain ⟨⟨k0, k1, k2, k3, k4⟩, ⟨f1, f2, f3, f4⟩, hg5⟩ := hr5.blk.five'
            have hsz1 : 1 ≤ n1 := by rw [hn1, nds_len]; have := x.size_pos; omega
            have hfw5 : n1 ≤ b := by rw [hn1]; exact hr5.few
            rw [← hn1] at k3
            have HN1 := Lib.hid hn1
            have hwn : IntKind.i64.wrap ((n1 : Int) - 1) = (n1 : Int) - 1 := IntWalk.i64_in _ (by omega)
            clear hd hr5 hn1
            go_upto_region 7 with fail
            have hst := HR5.out.stepR hltb
            obtain ⟨w6, hw6⟩ : ∃ w6, w6 = w5.setCell ⟨g, 1, none⟩ (.int .i64 ((b : Int) + 1)) := ⟨_, rfl⟩
            rw [← hw6] at hst ⊢
            have HK6 := Lib.hid (HK5.out.trans hst.2)
            have HO2 := Lib.hid (HOP.out (b + 1) (by have := HI.out.lo; omega) w6 _ _ _ hst.1)
            have hgb := HG.out (b + 1) hltb
            obtain ⟨r, hr⟩ : ∃ r, op (b + 1) = r := ⟨_, rfl⟩
            have HCE : Hid (C = chTail op ts [43] [45] 6 7 (f1' - 1) 7 x r) := Lib.hid (by rw [HI.out.eq, chainGo_two (by omega) hu1 hu2, hr])
            rw [hr] at hgb
            clear hst hw6 k0 k1 k2 k3 k4 f1 f2 f3 f4
            go_wp2_with fail
            refine HO2.out.mono ?_
            intro e w7 hpost
            obtain ⟨_ | y, b'⟩ := r
            · obtain ⟨rfl, nv7, ns7, lg7, hrd, hk⟩ := hpost.none_ hr
              have hgl := hgb.1
              simp only at hgl
              have hbn := hgb.2.1
              simp only at hbn
              have HF : Hid (LoR g ts tv ns nv lg w C op [43] [45] 6 7 a b' w7) := Lib.hid (.inl ⟨HCE.out, nv7, ns7, lg7, hrd, (HI.out.kr.trans HK6.out).trans hk⟩)
              obtain ⟨⟨k0, k1, k2, k3, k4⟩, ⟨f1, f2, f3, f4⟩, hg7⟩ := hrd.blk.five'
              clear hpost hr hrd hk hgb
              go_wp2_with fail
              go_roundg (ts.length - b')
              case rel => exact ⟨b', rfl, HF.out⟩
              case measure => rw [HGG.out]; omega
            · obtain ⟨rfl, nv7, hrd, hk⟩ := hpost.some_ hr
              have hys := hgb.2.2 y rfl
              have hbn := hgb.2.1
              simp only at hys hbn
              have HK7 := Lib.hid hk
              have hfw7 : ((ns ++ flat ns.length x) ++ flat (ns ++ flat ns.length x).length y).length + 1 ≤ b' := by have := HI.out.sz; rw [nds_len, nds_len]; omega
              have HPU := Lib.hid (put_any g w7 ts b' false _ _ tv nv7 7 ((n1 : Int) - 1) 0 [] hrd hfw7)
              rw [show str [] = .string ⟨#[]⟩ from rfl, bin_node (by decide)] at HPU
              obtain ⟨n2, hn2⟩ : ∃ n2, n2 = ((ns ++ flat ns.length x) ++ flat (ns ++ flat ns.length x).length y).length := ⟨_, rfl⟩
              rw [← hn2] at HPU
              have HN2 := Lib.hid hn2
              obtain ⟨⟨k0, k1, k2, k3, k4⟩, ⟨f1, f2, f3, f4⟩, hg7⟩ := hrd.blk.five'
              clear hpost hr hrd hk hgb hn2 hfw7
              go_wp2_with fail
              refine HPU.out.mono ?_
              rintro e w8 ⟨nv8, rfl, hk8, hr8⟩
              have HF : Hid (LoR g ts tv ns nv lg w C op [43] [45] 6 7 a b' w8) := Lib.hid (.inr ⟨f1' - 1, .bin 7 x y, nv8, HI.out.next HCE.out hys hr8 HN1.out HN2.out HK6.out HK7.out hk8⟩)
              clear hk8 hr8
              go_wp2_with fail
              go_roundg (ts.length - b')
              case rel => exact ⟨b', rfl, HF.out⟩
              case measure => rw [HGG.out]; omega
        · have hltb := isS_lt hu1
          have hwb : IntKind.i64.wrap ((b : Int) + 1) = (b : Int) + 1 := IntWalk.i64_in _ (by omega)
          have hu2 := isS_not (d := [45]) hu1 (by decide)
          go_wp2_with fail
          refine HX1.out.mono ?_
          rintro e w4 ⟨rfl, hd⟩
          have HK4 := Lib.hid (KR.of_ext (g := g) (nv := nv1) hd.ext)
          have HR4 := Lib.hid (HI.out.rd.keep hd.ext)
          have HX4 := Lib.hid (HI2.out w4 b false _ _ nv1 HR4.out)
          simp only [Bool.not_false, Bool.true_and] at HX4
          rw [hu2] at HX4
          clear hd
          go_wp2_with fail
          refine HX4.out.mono ?_
          rintro e w5 ⟨rfl, hd⟩
          have hr5 := HR4.out.keep hd.ext
          have HR5 := Lib.hid hr5
          have HK5 := Lib.hid (HK4.out.trans (KR.of_ext hd.ext))
          obtain ⟨A2, c2, rfl⟩ := hr5.row.shape
          obtain ⟨n1, hn1⟩ : ∃ n1, n1 = (ns ++ flat ns.length x).length := ⟨_, rfl⟩
          obtain ⟨⟨k0, k1, k2, k3, k4⟩, ⟨f1, f2, f3, f4⟩, hg5⟩ := hr5.blk.five'
          have hsz1 : 1 ≤ n1 := by rw [hn1, nds_len]; have := x.size_pos; omega
          have hfw5 : n1 ≤ b := by rw [hn1]; exact hr5.few
          rw [← hn1] at k3
          have HN1 := Lib.hid hn1
          have hwn : IntKind.i64.wrap ((n1 : Int) - 1) = (n1 : Int) - 1 := IntWalk.i64_in _ (by omega)
          clear hd hr5 hn1
          go_upto_region 7 with fail
          have hst := HR5.out.stepR hltb
          obtain ⟨w6, hw6⟩ : ∃ w6, w6 = w5.setCell ⟨g, 1, none⟩ (.int .i64 ((b : Int) + 1)) := ⟨_, rfl⟩
          rw [← hw6] at hst ⊢
          have HK6 := Lib.hid (HK5.out.trans hst.2)
          have HO2 := Lib.hid (HOP.out (b + 1) (by have := HI.out.lo; omega) w6 _ _ _ hst.1)
          have hgb := HG.out (b + 1) hltb
          obtain ⟨r, hr⟩ : ∃ r, op (b + 1) = r := ⟨_, rfl⟩
          have HCE : Hid (C = chTail op ts [43] [45] 6 7 (f1' - 1) 6 x r) := Lib.hid (by rw [HI.out.eq, chainGo_one (by omega) hu1, hr])
          rw [hr] at hgb
          clear hst hw6 k0 k1 k2 k3 k4 f1 f2 f3 f4
          go_wp2_with fail
          refine HO2.out.mono ?_
          intro e w7 hpost
          obtain ⟨_ | y, b'⟩ := r
          · obtain ⟨rfl, nv7, ns7, lg7, hrd, hk⟩ := hpost.none_ hr
            have hgl := hgb.1
            simp only at hgl
            have hbn := hgb.2.1
            simp only at hbn
            have HF : Hid (LoR g ts tv ns nv lg w C op [43] [45] 6 7 a b' w7) := Lib.hid (.inl ⟨HCE.out, nv7, ns7, lg7, hrd, (HI.out.kr.trans HK6.out).trans hk⟩)
            obtain ⟨⟨k0, k1, k2, k3, k4⟩, ⟨f1, f2, f3, f4⟩, hg7⟩ := hrd.blk.five'
            clear hpost hr hrd hk hgb
            go_wp2_with fail
            go_roundg (ts.length - b')
            case rel => exact ⟨b', rfl, HF.out⟩
            case measure => rw [HGG.out]; omega
          · obtain ⟨rfl, nv7, hrd, hk⟩ := hpost.some_ hr
            have hys := hgb.2.2 y rfl
            have hbn := hgb.2.1
            simp only at hys hbn
            have HK7 := Lib.hid hk
            have hfw7 : ((ns ++ flat ns.length x) ++ flat (ns ++ flat ns.length x).length y).length + 1 ≤ b' := by have := HI.out.sz; rw [nds_len, nds_len]; omega
            have HPU := Lib.hid (put_any g w7 ts b' false _ _ tv nv7 6 ((n1 : Int) - 1) 0 [] hrd hfw7)
            rw [show str [] = .string ⟨#[]⟩ from rfl, bin_node (by decide)] at HPU
            obtain ⟨n2, hn2⟩ : ∃ n2, n2 = ((ns ++ flat ns.length x) ++ flat (ns ++ flat ns.length x).length y).length := ⟨_, rfl⟩
            rw [← hn2] at HPU
            have HN2 := Lib.hid hn2
            obtain ⟨⟨k0, k1, k2, k3, k4⟩, ⟨f1, f2, f3, f4⟩, hg7⟩ := hrd.blk.five'
            clear hpost hr hrd hk hgb hn2 hfw7
            go_wp2_with fail
            refine HPU.out.mono ?_
            rintro e w8 ⟨nv8, rfl, hk8, hr8⟩
            have HF : Hid (LoR g ts tv ns nv lg w C op [43] [45] 6 7 a b' w8) := Lib.hid (.inr ⟨f1' - 1, .bin 6 x y, nv8, HI.out.next HCE.out hys hr8 HN1.out HN2.out HK6.out HK7.out hk8⟩)
            clear hk8 hr8
            go_wp2_with fail
            go_roundg (ts.length - b')
            case rel => exact ⟨b', rfl, HF.out⟩
            case measure => rw [HGG.out]; omega
end Big
end Go.Proofs.YtgopljllknbelaaGreatDoor
/- The program's operands and plain. -/
namespace Go.Proofs.YtgopljllknbelaaGreatDoor
namespace Big
open Go.RowKit
theorem poperands_any (w : World) (k : Int) : Calls Tryz.prog 51 #[.int .i64 k] w fun e w' => e = .returned (.int .i64 (operI k)) ∧ w = w' := by
  have key : (k < 1 ∧ operI k = -1) ∨ (1 ≤ k ∧ k ≤ 4 ∧ operI k = 0) ∨ (k = 5 ∧ operI k = 1) ∨ (6 ≤ k ∧ k ≤ 9 ∧ operI k = 2) ∨ (10 ≤ k ∧ k ≤ 16 ∧ operI k = 1) ∨ (17 ≤ k ∧ operI k = -1) := by
    unfold operI
    by_cases h1 : k < 1
    · simp [h1]
    by_cases h2 : 16 < k
    · simp [h1, h2]
      omega
    by_cases h3 : k ≤ 4
    · simp [h1, h2, h3]
      omega
    by_cases h4 : 6 ≤ k ∧ k ≤ 9
    · simp [h1, h2, h3, h4]
    · simp [h1, h2, h3, h4]
      omega
  rcases key with ⟨h1, h⟩ | ⟨h1, h2, h⟩ | ⟨rfl, h⟩ | ⟨h1, h2, h⟩ | ⟨h1, h2, h⟩ | ⟨h1, h⟩
  · have H := Lib.hid h
    have d1 : decide (k ≥ 1) = false := decide_eq_false (by omega)
    have d1' : ¬ 1 ≤ k := by omega
    have d2 : (k == 5) = false := by rw [beq_eq_false_iff_ne]; omega
    have d3 : decide (k ≥ 10) = false := decide_eq_false (by omega)
    have d3' : ¬ 10 ≤ k := by omega
    have d4 : decide (k ≥ 6) = false := decide_eq_false (by omega)
    have d4' : ¬ 6 ≤ k := by omega
    clear h
    go_enter Tryz.func51, Tryz.ntmps51
    go_wp2_with fail
    go_ret
    exact ⟨by rw [H.out]; rfl, rfl⟩
  · have H := Lib.hid h
    clear h
    go_enter Tryz.func51, Tryz.ntmps51
    go_wp2_with fail
    go_ret
    exact ⟨by rw [H.out]; rfl, rfl⟩
  · have H := Lib.hid h
    clear h
    go_enter Tryz.func51, Tryz.ntmps51
    go_wp2_with fail
    go_ret
    exact ⟨by rw [H.out]; rfl, rfl⟩
  · have H := Lib.hid h
    have d1' : 1 ≤ k := by omega
    have d1'' : ¬ k ≤ 4 := by omega
    have d2 : (k == 5) = false := by rw [beq_eq_false_iff_ne]; omega
    have d3' : ¬ 10 ≤ k := by omega
    clear h
    go_enter Tryz.func51, Tryz.ntmps51
    go_wp2_with fail
    go_ret
    exact ⟨by rw [H.out]; rfl, rfl⟩
  · have H := Lib.hid h
    have d1' : 1 ≤ k := by omega
    have d1'' : ¬ k ≤ 4 := by omega
    have d2 : (k == 5) = false := by rw [beq_eq_false_iff_ne]; omega
    clear h
    go_enter Tryz.func51, Tryz.ntmps51
    go_wp2_with fail
    go_ret
    exact ⟨by rw [H.out]; rfl, rfl⟩
  · have H := Lib.hid h
    have d1' : 1 ≤ k := by omega
    have d1'' : ¬ k ≤ 4 := by omega
    have d2 : (k == 5) = false := by rw [beq_eq_false_iff_ne]; omega
    have d3' : 10 ≤ k := by omega
    have d3'' : ¬ k ≤ 16 := by omega
    have d4' : 6 ≤ k := by omega
    have d4'' : ¬ k ≤ 9 := by omega
    clear h
    go_enter Tryz.func51, Tryz.ntmps51
    go_wp2_with fail
    go_ret
    exact ⟨by rw [H.out]; rfl, rfl⟩
set_option maxRecDepth 100000 in
set_option maxHeartbeats 1000000 in
theorem pplain_any (w : World) (x : Nd) (hl : x.text.length ≤ 1073741824) (hm : MaxV w) : Calls Tryz.prog 52 #[ndV x] w fun e w' => e = .returned (.bool (plainB x)) ∧ Ext w w' := by
  obtain ⟨k, a, b, n, t⟩ := x
  simp only [ndV] at hl ⊢
  have HP := Lib.hid (fun W h => parse7_any W t h)
  have HM := Lib.hid hm
  have HW := Lib.hid (fun W => word_any W t hl)
  have HRS := Lib.hid (fun W => reserved_any W t)
  have hnm : nameB t = (wordB t && !reservedB t) := by rw [reservedB_mem]; rfl
  obtain ⟨s, hs⟩ : ∃ s : ByteArray, s = ⟨t.toArray⟩ := ⟨_, rfl⟩
  have hst : str t = .string s := by rw [hs]; rfl
  have hne : s.toList.isEmpty = (t == []) := by rw [hs]; exact bytes_empty t
  rw [hst] at HP HW HRS ⊢
  clear hs hst hm
  have hb0 := Blk.new w 42 #[.int .i64 k, .int .i64 a, .int .i64 b, .int .i64 n, .string s]
  have HX0 := Lib.hid ((Ext.refl w).alloc (.cells #[.int .i64 k, .int .i64 a, .int .i64 b, .int .i64 n, .string s] 42))
  have HB0 := Lib.hid hb0
  obtain ⟨q0, q1, q2, q3, q4⟩ := hb0.five
  clear hb0
  have key : (k = 1) ∨ (k = 2) ∨ (k = 10) ∨ (k ≠ 1 ∧ k ≠ 2 ∧ k ≠ 10) := by omega
  rcases key with rfl | rfl | rfl | ⟨hk1, hk2, hk3⟩
  · have hcb : ((code7 t : Int) == 0) = (code7 t == 0) := by rw [Bool.eq_iff_iff]; simp
    have H : Hid (plainB ⟨1, a, b, n, t⟩ = ((code7 t : Int) == 0 && (n == 0))) := Lib.hid (by rw [hcb]; unfold plainB plainT plainM; simp)
    clear hne hcb hnm
    generalize plainB ⟨1, a, b, n, t⟩ = r at *
    generalize hce : (code7 t : Int) = ce at *
    go_enter Tryz.func52, Tryz.ntmps52
    go_wp2_with fail
    refine (HP.out _ (HM.out.ext HX0.out)).mono ?_
    rintro e w5 ⟨v5, rfl, hr5, hx5⟩
    obtain ⟨b5, n5, A5, c5, n6, A6, c6, rfl⟩ := hr5.shape
    have hx6 := hx5.alloc (.cells #[.bool b5, .slice A5 n5 c5, .slice A6 n6 c6] 104)
    have HX6 := Lib.hid (HX0.out.trans hx6)
    obtain ⟨q0, q1, q2, q3, q4⟩ := (HB0.out.ext hx6).five
    clear hr5 hx5 hx6
    rw [hce]
    clear hce
    cases hz : (ce == 0)
    · rw [hz] at H
      go_wp2_with fail
      go_ret
      exact ⟨by rw [H.out]; rfl, HX6.out⟩
    · rw [hz] at H
      go_wp2_with fail
      go_ret
      exact ⟨by rw [H.out]; rfl, HX6.out⟩
  · have H : Hid (plainB ⟨2, a, b, n, t⟩ = ((wordB t && !reservedB t) && (n == 0))) := Lib.hid (by rw [← hnm]; unfold plainB plainT plainM; simp)
    generalize plainB ⟨2, a, b, n, t⟩ = r at *
    clear hne hnm
    cases hw : wordB t
    · rw [hw] at HW H
      clear hw
      go_enter Tryz.func52, Tryz.ntmps52
      go_wp2_with fail
      refine (HW.out _).mono ?_
      rintro e w5 ⟨rfl, rfl⟩
      go_wp2_with fail
      go_ret
      exact ⟨by rw [H.out]; rfl, HX0.out⟩
    · rw [hw] at HW H
      clear hw
      cases hv : reservedB t
      all_goals
        rw [hv] at HRS H
        clear hv
        go_enter Tryz.func52, Tryz.ntmps52
        go_wp2_with fail
        refine (HW.out _).mono ?_
        rintro e w5 ⟨rfl, rfl⟩
        go_wp2_with fail
        refine (HRS.out _).mono ?_
        rintro e w6 ⟨rfl, rfl⟩
        go_wp2_with fail
        go_ret
        exact ⟨by rw [H.out]; rfl, HX0.out⟩
  · have H : Hid (plainB ⟨10, a, b, n, t⟩ = ((decide (-64 ≤ n) && decide (n ≤ 64)) && s.toList.isEmpty)) := Lib.hid (by rw [hne, ← plainM_10]; unfold plainB plainT plainM; rw [Bool.and_comm]; rfl)
    generalize plainB ⟨10, a, b, n, t⟩ = r at *
    clear hne hnm HP HW HRS hl
    by_cases hn : -64 ≤ n
    · have hd : decide (-64 ≤ n) = true := decide_eq_true hn
      rw [hd] at H
      by_cases hn2 : n ≤ 64
      · have hd2 : decide (n ≤ 64) = true := decide_eq_true hn2
        rw [hd2] at H
        go_enter Tryz.func52, Tryz.ntmps52
        go_wp2_with fail
        go_ret
        exact ⟨by rw [H.out]; rfl, HX0.out⟩
      · have hd2 : decide (n ≤ 64) = false := decide_eq_false hn2
        rw [hd2] at H
        go_enter Tryz.func52, Tryz.ntmps52
        go_wp2_with fail
        go_ret
        exact ⟨by rw [H.out]; rfl, HX0.out⟩
    · have hd : decide (-64 ≤ n) = false := decide_eq_false hn
      rw [hd] at H
      go_enter Tryz.func52, Tryz.ntmps52
      go_wp2_with fail
      go_ret
      exact ⟨by rw [H.out]; rfl, HX0.out⟩
  · have e1 : (k == 1) = false := by rw [beq_eq_false_iff_ne]; omega
    have e2 : (k == 2) = false := by rw [beq_eq_false_iff_ne]; omega
    have e3 : (k == 10) = false := by rw [beq_eq_false_iff_ne]; omega
    have H : Hid (plainB ⟨k, a, b, n, t⟩ = ((n == 0) && s.toList.isEmpty)) := Lib.hid (by rw [hne, Bool.and_comm]; unfold plainB plainT plainM; rw [if_neg hk1, if_neg hk2, if_neg hk3])
    generalize plainB ⟨k, a, b, n, t⟩ = r at *
    clear hne hnm HP HW HRS hl hk1 hk2 hk3
    cases hz : (n == 0)
    · rw [hz] at H
      go_enter Tryz.func52, Tryz.ntmps52
      go_wp2_with fail
      go_ret
      exact ⟨by rw [H.out]; rfl, HX0.out⟩
    · rw [hz] at H
      go_enter Tryz.func52, Tryz.ntmps52
      go_wp2_with fail
      go_ret
      exact ⟨by rw [H.out]; rfl, HX0.out⟩
end Big
end Go.Proofs.YtgopljllknbelaaGreatDoor
/- The program's parts. -/
namespace Go.Proofs.YtgopljllknbelaaGreatDoor
namespace Big
open Go.RowKit
def prC (L : List (Nat × Nat)) : List Value := L.flatMap (fun p => [din p.1, din p.2])
theorem prC_len (L : List (Nat × Nat)) : (prC L).length = L.length * 2 := by
  induction L with
  | nil => rfl
  | cons p L ih =>
    unfold prC at *
    rw [List.flatMap_cons, List.length_append, ih, List.length_cons]
    simp
    omega
theorem prC_append (L M : List (Nat × Nat)) : prC (L ++ M) = prC L ++ prC M := by simp [prC]
theorem prC_one (p : Nat × Nat) : prC [p] = [din p.1, din p.2] := by simp [prC]
theorem prC_take (L : List (Nat × Nat)) (n : Nat) : (prC L).take (n * 2) = prC (L.take n) := by
  induction L generalizing n with
  | nil => simp [prC]
  | cons p L ih =>
    cases n with
    | zero => simp [prC]
    | succ n =>
      unfold prC at *
      rw [List.flatMap_cons, List.take_succ_cons, List.flatMap_cons, show (n + 1) * 2 = n * 2 + 2 by omega]
      show din p.1 :: din p.2 :: List.take (n * 2) (List.flatMap (fun p => [din p.1, din p.2]) L) = din p.1 :: din p.2 :: List.flatMap (fun p => [din p.1, din p.2]) (List.take n L)
      rw [ih n]
theorem prC_get (L : List (Nat × Nat)) (i : Nat) (hi : i < L.length) : (prC L)[i * 2]? = some (din (L.getD i (0, 0)).1) ∧ (prC L)[i * 2 + 1]? = some (din (L.getD i (0, 0)).2) := by
  induction L generalizing i with
  | nil => simp at hi
  | cons p L ih =>
    unfold prC at *
    rw [List.flatMap_cons]
    cases i with
    | zero => exact ⟨rfl, rfl⟩
    | succ i =>
      have h := ih i (by simpa using hi)
      rw [List.getElem?_append_right (by simp; omega), List.getElem?_append_right (by simp; omega)]
      have e1 : (i + 1) * 2 - [din p.1, din p.2].length = i * 2 := by simp; omega
      have e2 : (i + 1) * 2 + 1 - [din p.1, din p.2].length = i * 2 + 1 := by simp; omega
      rw [e1, e2]
      exact h
/-- A row of operands of one's own. -/
def RowP (B : Nat) (w : World) (v : Value) (n : Nat) (L : List (Nat × Nat)) : Prop := w.ownsRow B 55 2 v n (prC L)
theorem info_part : (Tryz.prog.info? 55).map (fun i => (i.zero, i.size, i.bytes)) = some (some (.agg #[.int .i64 0, .int .i64 0]), 2, 16) := by kernel_rfl
theorem RowP.len {B n : Nat} {w : World} {v : Value} {L : List (Nat × Nat)} (h : RowP B w v n L) : L.length = n := by
  have := h.1
  rw [prC_len] at this
  omega
theorem RowP.ext {B n : Nat} {w w' : World} {v : Value} {L : List (Nat × Nat)} (h : RowP B w v n L) (hx : Ext w w') : RowP B w' v n L := ownsRow_below h (fun _ _ hg => Below.block hx _ hg)
theorem RowP.get {B n g c : Nat} {w : World} {L : List (Nat × Nat)} (h : RowP B w (.slice (some ⟨g, 0, none⟩) n c) n L) (j : Nat) (hj : j < n) : w.cell? ⟨g, j * 2, none⟩ = some (.int .i64 ((L.getD j (0, 0)).1 : Int)) ∧ w.cell? ⟨g, j * 2 + 1, none⟩ = some (.int .i64 ((L.getD j (0, 0)).2 : Int)) := by
  have hl := h.len
  have h1 := h.cellAt (j * 2) (by omega)
  have h2 := h.cellAt (j * 2 + 1) (by omega)
  have h3 := prC_get L j (by omega)
  rw [h1, h2]
  exact h3
theorem ownsRow_blt {B sz n : Nat} {e : TypeId} {w : World} {v : Value} {xs : List Value} (h : w.ownsRow B e sz v n xs) (g : Nat) (hg : v.ownBlock = some g) : B ≤ g ∧ g < w.heap.size := by
  rcases h.2 with ⟨rfl, h2⟩ | ⟨g', cap, cur, rfl, hb, hh, _⟩
  · cases hg
  · simp only [Value.ownBlock, Option.some.injEq] at hg
    subst hg
    refine ⟨hb, ?_⟩
    rcases Nat.lt_or_ge g' w.heap.size with h | h
    · exact h
    · rw [Array.getElem?_eq_none h] at hh; cases hh
/-- A row cut short. -/
theorem ownsRow_take {B sz n m : Nat} {e : TypeId} {w : World} {A : Option Addr} {c : Nat} {xs : List Value} (h : w.ownsRow B e sz (.slice A n c) n xs) (hm : m ≤ n) : w.ownsRow B e sz (.slice A m c) m (xs.take (m * sz)) := by
  have hms : m * sz ≤ n * sz := Nat.mul_le_mul_right sz hm
  refine ⟨by rw [List.length_take, h.1]; omega, ?_⟩
  rcases h.2 with ⟨h1, h2⟩ | ⟨g, cap, cur, h1, hb, hh, hc, hmx, hs, ht⟩
  · injection h1 with h1 h3 h4
    subst h1
    subst h2
    obtain rfl : m = 0 := by omega
    exact .inl ⟨by rw [h4], rfl⟩
  · injection h1 with h1 h3 h4
    subst h1
    subst h4
    exact .inr ⟨g, c, cur, rfl, hb, hh, by omega, hmx, hs, by rw [← ht, List.take_take, Nat.min_eq_left hms]⟩
/-- An append to one of two rows leaves the other as it was, and apart. -/
theorem two_own {B sz1 sz2 n m g : Nat} {e1 e2 : TypeId} {W W1 w' : World} {v u u' : Value} {xs ys : List Value} (h4 : W.ownsRow B e1 sz1 v n xs) (h5 : W.ownsRow B e2 sz2 u m ys) (hap : Apart v u) (hx : Ext W W1) (hB : B ≤ W.heap.size)
    (hgr : W1.grownBy w' v.ownBlock) (hat : v.ownBlock = some g ∨ g = W1.heap.size) (hu : u'.ownBlock = some g) : w'.ownsRow B e2 sz2 u m ys ∧ Apart u' u ∧ Below B W w' := by
  refine ⟨?_, fun k hk he => ?_, ?_⟩
  · refine (ownsRow_below h5 (fun _ _ hg => Below.block hx _ hg)).kept hgr ?_
    cases hu5 : u.ownBlock with
    | none => exact .inl rfl
    | some k => exact .inr (fun he => hap k he.symm hu5)
  · rw [hu] at hk
    injection hk with hk
    subst hk
    rcases hat with hat | hat
    · exact hap g hat he
    · have := (ownsRow_blt h5 g he).2
      have := hx.size
      omega
  · exact Below.grown (Below.mono hx hB) hgr (Nat.le_trans hB hx.size) (fun k hk => (ownsRow_blt h4 k hk).1)
/-- What parts returns. -/
def PartsPost (l : List Nd) (w : World) (e : Ending) (w' : World) : Prop :=
  ∃ v, e = .returned (.tuple #[v, .int .i64 ((prAll l).2 : Int)]) ∧ Ext w w' ∧ RowP w.heap.size w' v (prAll l).1.length (prAll l).1
/-- What its loop holds. -/
structure PrInv (l : List Nd) (w : World) (i : Nat) (all st : List (Nat × Nat)) (va vs : Value) (wr : World) : Prop where
  go : prAll l = prGo i all st (l.drop i)
  ra : RowP w.heap.size wr va i all
  rs : RowP w.heap.size wr vs st.length st
  apart : Apart va vs
  ext : Ext w wr
  low : ∀ p ∈ st, p.1 ≤ i ∧ p.2 ≤ i
  fs : st.length ≤ i
theorem PrInv.bad {l : List Nd} {w wr : World} {i : Nat} {all st : List (Nat × Nat)} {va vs : Value} {nd : Nd} (h : PrInv l w i all st va vs wr) (hn : l[i]? = some nd) (hs : prStep i st nd = none) : prAll l = (all, 0) := by
  have h1 := h.go
  rw [drop_cons_of hn, prGo, hs] at h1
  exact h1
theorem PrInv.next {l : List Nd} {w wr w' : World} {i k : Nat} {all st : List (Nat × Nat)} {va vs va' vs' : Value} {nd : Nd} {p : Nat × Nat} (h : PrInv l w i all st va vs wr) (hn : l[i]? = some nd) (hs : prStep i st nd = some (p, st.take k ++ [p]))
    (h4 : RowP w.heap.size w' va' (i + 1) (all ++ [p])) (h5 : RowP w.heap.size w' vs' (k + 1) (st.take k ++ [p])) (hk : k ≤ st.length) (hap : Apart va' vs') (hx : Ext w w') (hp : p.1 ≤ i + 1 ∧ p.2 ≤ i + 1) : PrInv l w (i + 1) (all ++ [p]) (st.take k ++ [p]) va' vs' w' := by
  have h1 := h.go
  rw [drop_cons_of hn, prGo, hs] at h1
  have hl : (st.take k ++ [p]).length = k + 1 := by rw [List.length_append, List.length_take, List.length_singleton]; omega
  refine ⟨h1, h4, by rw [hl]; exact h5, hap, hx, fun q hq => ?_, by have := h.fs; rw [hl]; omega⟩
  rcases List.mem_append.1 hq with hq | hq
  · have := h.low q (List.mem_of_mem_take hq)
    omega
  · rw [List.mem_singleton] at hq
    rw [hq]
    exact hp
section
variable {st : List (Nat × Nat)} {i : Nat} {k a b n : Int} {t : List UInt8}
theorem prStep_neg (h : operI k < 0) : prStep i st ⟨k, a, b, n, t⟩ = none := by unfold prStep; rw [if_pos (.inl h)]
theorem prStep_few (h : (st.length : Int) < operI k) : prStep i st ⟨k, a, b, n, t⟩ = none := by unfold prStep; rw [if_pos (.inr (.inl h))]
theorem prStep_0bad (h : operI k = 0) (h2 : ¬ (a = 0 ∧ b = 0)) : prStep i st ⟨k, a, b, n, t⟩ = none := by
  unfold prStep
  simp only [h]
  split
  · rfl
  · simp [h2]
theorem prStep_1bad (h : operI k = 1) (h2 : ¬ (a = (i : Int) - 1 ∧ b = 0)) : prStep i st ⟨k, a, b, n, t⟩ = none := by
  unfold prStep
  simp only [h]
  split
  · rfl
  · simp [h2]
theorem prStep_2bad (h : operI k = 2) (h2 : ¬ (a = ((st.getD (st.length - 1) (0, 0)).1 : Int) - 1 ∧ b = (i : Int) - 1)) : prStep i st ⟨k, a, b, n, t⟩ = none := by
  unfold prStep
  simp only [h]
  split
  · rfl
  · first | (simp [h2]; done) | (simp; exact fun h3 h4 => absurd ⟨h3, h4⟩ h2)
theorem prStep_0 (h : operI k = 0) (hp : plainB ⟨k, 0, 0, n, t⟩ = true) : prStep i st ⟨k, 0, 0, n, t⟩ = some ((i, 1), st.take (st.length - 0) ++ [(i, 1)]) := by
  unfold prStep
  simp only [h, hp]
  rw [if_neg (by first | (simp; done) | (simp; omega))]
  simp
theorem prStep_1 (h : operI k = 1) (hp : plainB ⟨k, (i : Int) - 1, 0, n, t⟩ = true) (hm : 1 ≤ st.length) : prStep i st ⟨k, (i : Int) - 1, 0, n, t⟩ = some (((st.getD (st.length - 1) (0, 0)).1, (st.getD (st.length - 1) (0, 0)).2 + 1), st.take (st.length - 1) ++ [((st.getD (st.length - 1) (0, 0)).1, (st.getD (st.length - 1) (0, 0)).2 + 1)]) := by
  unfold prStep
  simp only [h, hp]
  rw [if_neg (by first | (simp; done) | (simp; omega)), if_neg (by decide), if_pos trivial, if_pos (by simp)]
theorem prStep_2 (h : operI k = 2) (hp : plainB ⟨k, ((st.getD (st.length - 1) (0, 0)).1 : Int) - 1, (i : Int) - 1, n, t⟩ = true) (hm : 2 ≤ st.length) : prStep i st ⟨k, ((st.getD (st.length - 1) (0, 0)).1 : Int) - 1, (i : Int) - 1, n, t⟩ = some (((st.getD (st.length - 2) (0, 0)).1, max ((st.getD (st.length - 1) (0, 0)).2 + 1) ((st.getD (st.length - 2) (0, 0)).2 + 1)), st.take (st.length - 2) ++ [((st.getD (st.length - 2) (0, 0)).1, max ((st.getD (st.length - 1) (0, 0)).2 + 1) ((st.getD (st.length - 2) (0, 0)).2 + 1))]) := by
  unfold prStep
  simp only [h, hp]
  rw [if_neg (by first | (simp; done) | (simp; omega)), if_neg (by decide), if_neg (by decide), if_pos (by simp)]
theorem prStep_plain (h : plainB ⟨k, a, b, n, t⟩ = false) : prStep i st ⟨k, a, b, n, t⟩ = none := by unfold prStep; rw [if_pos (.inr (.inr h))]
end
set_option maxHeartbeats 4000000 in
set_option maxRecDepth 100000 in
theorem parts_any (w : World) (v : Value) (l : List Nd) (hr : RNd w v l) (hl : l.length ≤ 1000000) (htx : ∀ x ∈ l, x.text.length ≤ 1073741824) (hm : MaxV w) : Calls Tryz.prog 30 #[v] w (PartsPost l w) := by
  have HR := Lib.hid hr
  have HTX := Lib.hid htx
  have HMV := Lib.hid hm
  obtain ⟨i0, hi, hz0, hz1, hz2⟩ := info_parts info_part
  obtain ⟨A, c, rfl, _⟩ := hr
  clear htx hm
  have HST : Hid (PrInv l w 0 [] [] (.slice none 0 0) (.slice none 0 0) w) := Lib.hid ⟨rfl, ⟨rfl, .inl ⟨rfl, rfl⟩⟩, ⟨rfl, .inl ⟨rfl, rfl⟩⟩, (fun g h => by cases h), Ext.refl w, (fun p h => by cases h), Nat.zero_le _⟩
  obtain ⟨n, hn⟩ : ∃ n, n = l.length := ⟨_, rfl⟩
  have HN := Lib.hid hn
  rw [← hn] at hl ⊢
  clear hn
  go_enter Tryz.func30, Tryz.ntmps30
  go_wp2_with fail
  go_loopw [4, 5, 15] (fun s4 s5 s15 wr => ∃ (i : Nat) (all st : List (Nat × Nat)), i ≤ n ∧ s15 = .int .i64 (i : Int) ∧ PrInv l w i all st s4 s5 wr) (fun _ _ s15 _ => n - (intOf s15).toNat)
  case atStart => exact ⟨0, [], [], Nat.zero_le _, rfl, HST.out⟩
  case round =>
    obtain ⟨i, all, st, hin, rfl, hinv⟩ := hrel
    have HI := Lib.hid hinv
    obtain ⟨A4, c4, rfl⟩ := ownsRow_shape hinv.ra
    obtain ⟨A5, c5, rfl⟩ := ownsRow_shape hinv.rs
    clear HST
    have hfs := hinv.fs
    obtain ⟨ms, hms⟩ : ∃ ms, ms = st.length := ⟨_, rfl⟩
    rw [← hms] at hfs ⊢
    have HMS := Lib.hid hms
    clear hms
    by_cases hlt : i < n
    · have hil : i < l.length := by rw [← HN.out]; exact hlt
      obtain ⟨A', c', he, hc⟩ := HR.out.ext hinv.ext
      obtain ⟨b, o, hA', hb, hc⟩ := hc (by omega)
      obtain ⟨nd, hnd, hat, htl⟩ : ∃ nd, l[i]? = some nd ∧ NdAt wr b (o + i * 5) nd ∧ nd.text.length ≤ 1073741824 := ⟨l[i], List.getElem?_eq_getElem hil, hc i hil, HTX.out _ (List.getElem_mem hil)⟩
      injection he with he1 he2 he3
      subst he1
      clear he2 he3
      subst hA'
      have HBAD : Hid (prStep i st nd = none → prAll l = (all, 0)) := Lib.hid (fun h => hinv.bad hnd h)
      have HND := Lib.hid hnd
      clear hnd hc
      have hw : wr.heap.size ≥ w.heap.size := hinv.ext.size
      have HX := Lib.hid hinv.ext
      have HMW := Lib.hid (HMV.out.ext hinv.ext)
      clear hinv hil
      obtain ⟨kd, na, nb, nn, nt⟩ := nd
      have HPL := Lib.hid (fun W h => pplain_any W ⟨kd, na, nb, nn, nt⟩ htl h)
      simp only [ndV] at HPL
      obtain ⟨k0, k1, k2, k3, k4⟩ := hat
      simp only at k0 k1 k2 k3 k4
      obtain ⟨s, hs⟩ : ∃ s : ByteArray, s = ⟨nt.toArray⟩ := ⟨_, rfl⟩
      have hst : str nt = .string s := by rw [hs]; rfl
      rw [hst] at HPL k4
      clear hs hst htl
      have HOP := Lib.hid (fun W => poperands_any W kd)
      have key := operI_cases kd
      obtain ⟨p, hp⟩ : ∃ p, p = plainB ⟨kd, na, nb, nn, nt⟩ := ⟨_, rfl⟩
      rw [← hp] at HPL
      have hb0 := Blk.new wr 42 #[.int .i64 kd, .int .i64 na, .int .i64 nb, .int .i64 nn, .string s]
      have HXA := Lib.hid ((Ext.refl wr).alloc (.cells #[.int .i64 kd, .int .i64 na, .int .i64 nb, .int .i64 nn, .string s] 42))
      have HBN := Lib.hid hb0
      obtain ⟨q0, q1, q2, q3, q4⟩ := hb0.five
      clear hb0
      have HRA := Lib.hid HI.out.ra
      have HRS : Hid (RowP w.heap.size wr (.slice A5 ms c5) ms st) := Lib.hid (by
        have h := HI.out.rs
        rw [← HMS.out] at h
        exact h)
      have HFA := Lib.hid HI.out.ra.len
      have HLOW : Hid (∀ j, j < ms → (st.getD j (0, 0)).1 ≤ i ∧ (st.getD j (0, 0)).2 ≤ i) := Lib.hid (fun j hj => HI.out.low _ (by
        have hjl : j < st.length := by rw [← HMS.out]; exact hj
        rw [List.getD_eq_getElem?_getD, List.getElem?_eq_getElem hjl]
        exact List.getElem_mem hjl))
      rcases key with hop | hop | hop | hop
      · have HNO := Lib.hid (HBAD.out (prStep_neg (by rw [hop]; decide)))
        rw [hop] at HOP
        clear hop hp HBAD
        go_wp2_with fail
        refine (HOP.out _).mono ?_
        rintro e w2 ⟨rfl, rfl⟩
        go_wp2_with fail
        go_ret2
        exact ⟨_, by rw [HNO.out]; rfl, HX.out.trans HXA.out, by rw [HNO.out, HFA.out]; exact HRA.out.ext HXA.out⟩
      · cases hpb : p
        · rw [hpb] at hp HPL
          have HNO := Lib.hid (HBAD.out (prStep_plain hp.symm))
          rw [hop] at HOP
          clear hop hp HBAD hpb
          go_wp2_with fail
          refine (HOP.out _).mono ?_
          rintro e w2 ⟨rfl, rfl⟩
          go_wp2_with fail
          refine (HPL.out _ (HMW.out.ext HXA.out)).mono ?_
          rintro e w3 ⟨rfl, hx3⟩
          obtain ⟨q0, q1, q2, q3, q4⟩ := (HBN.out.ext hx3).five
          have hws := (HBN.out.ext hx3).lt
          have hws1 : wr.heap.size < w3.heap.size + 1 := by omega
          have hws2 : wr.heap.size < w3.heap.size + 1 + 1 := by omega
          have hws3 : wr.heap.size < w3.heap.size + 1 + 1 + 1 := by omega
          have HX3 := Lib.hid (HXA.out.trans hx3)
          clear hx3
          go_wp2_with fail
          go_ret2
          exact ⟨_, by rw [HNO.out]; rfl, HX.out.trans HX3.out, by rw [HNO.out, HFA.out]; exact HRA.out.ext HX3.out⟩
        · rw [hpb] at hp HPL
          have HPB := Lib.hid hp.symm
          clear hpb hp
          by_cases ha : na = 0
          · subst ha
            by_cases hb2 : nb = 0
            · subst hb2
              have HSP : Hid (prStep i st ⟨kd, 0, 0, nn, nt⟩ = some ((i, 1), st.take (ms - 0) ++ [(i, 1)])) := Lib.hid (by rw [HMS.out]; exact prStep_0 hop HPB.out)
              have HBD : Hid (i ≤ i + 1 ∧ 1 ≤ i + 1) := Lib.hid ⟨by omega, by omega⟩
              rw [hop] at HOP
              clear hop HBAD
              go_wp2_with fail
              refine (HOP.out _).mono ?_
              rintro e w2 ⟨rfl, rfl⟩
              go_wp2_with fail
              refine (HPL.out _ (HMW.out.ext HXA.out)).mono ?_
              rintro e w3 ⟨rfl, hx3⟩
              obtain ⟨q0, q1, q2, q3, q4⟩ := (HBN.out.ext hx3).five
              have hws := (HBN.out.ext hx3).lt
              have hws1 : wr.heap.size < w3.heap.size + 1 := by omega
              have hws2 : wr.heap.size < w3.heap.size + 1 + 1 := by omega
              have hws3 : wr.heap.size < w3.heap.size + 1 + 1 + 1 := by omega
              have HX3 := Lib.hid (HXA.out.trans hx3)
              clear hx3
              go_upto_region 20 with fail
              rcases HRS.out.2 with ⟨he, h0⟩ | ⟨g5, cap5, cur5, he, _, _, hcp, _⟩
              · injection he with he1 he2 he3
                have H0 := Lib.hid (And.intro he2 he3)
                subst he1
                clear he2 he3 h0
                obtain ⟨w4, hw4⟩ : ∃ w4, w4 = (w3.alloc (.cells #[.int .i64 (i : Int), .int .i64 1] 55)).alloc (.cells #[.int .i64 kd, .int .i64 0, .int .i64 0, .int .i64 nn, .string s] 42) := ⟨_, rfl⟩
                rw [← hw4]
                have hx34 : Ext w3 w4 := by rw [hw4]; exact (((Ext.refl w3).alloc _).alloc _)
                have hbp : Blk w4 w3.heap.size 55 #[.int .i64 (i : Int), .int .i64 1] := by rw [hw4]; exact ((Blk.new w3 _ _).alloc _)
                have HX4 := Lib.hid (HX3.out.trans hx34)
                have HBP := Lib.hid hbp
                obtain ⟨p0, p1⟩ := hbp.two'
                obtain ⟨mk, hmk⟩ : ∃ mk, mk = ms - 0 := ⟨_, rfl⟩
                have hwk : IntKind.i64.wrap (ms : Int) = (mk : Int) := by rw [IntWalk.i64_in _ (by omega)]; omega
                have hmc : mk ≤ c5 := by have := H0.out; omega
                have hgw : w.heap.size ≤ w4.heap.size := Nat.le_trans HX.out.size HX4.out.size
                have HS4 := Lib.hid (ownsRow_take (m := mk) (HRS.out.ext HX4.out) (by omega))
                have HA4 := Lib.hid (HRA.out.ext HX4.out)
                have hbpl := hbp.lt
                have hgpr : wr.heap.size ≤ w3.heap.size := HX3.out.size
                have HMKL : Hid (mk ≤ st.length) := Lib.hid (by rw [← HMS.out]; omega)
                have HSQ : Hid (prStep i st ⟨kd, 0, 0, nn, nt⟩ = some ((i, 1), st.take mk ++ [(i, 1)])) := Lib.hid (by rw [hmk]; exact HSP.out)
                have HRO : Hid ((w4.alloc (.cells #[.int .i64 (i : Int), .int .i64 1] 55)).drew.ownsRow w.heap.size 55 2 (.slice none mk c5) mk ((prC st).take (mk * 2))) := Lib.hid (ownsRow_below HS4.out (fun k _ hk => Below.heap_alloc w4 _ k hk))
                have HNW : Hid (∀ (j : Nat) (u : Value), [Value.int .i64 (i : Int), Value.int .i64 1][j]? = some u → (w4.alloc (.cells #[.int .i64 (i : Int), .int .i64 1] 55)).drew.cell? ((⟨w4.heap.size, 0, none⟩ : Addr).add j) = some u) := Lib.hid (newsL w4 55 [.int .i64 (i : Int), .int .i64 1])
                have HB1 : Hid (mk + 1 ≤ maxLen) := Lib.hid (by unfold maxLen; omega)
                have HB2 : Hid ((mk + 1) * 16 ≤ 140737488355328) := Lib.hid (by omega)
                have HB3 : Hid (w.heap.size ≤ (w4.alloc (.cells #[.int .i64 (i : Int), .int .i64 1] 55)).drew.heap.size) := Lib.hid (by simp; omega)
                clear hw4 hbp hx34 hmk q0 q1 q2 q3 q4
                go_region_law (refine step_append_lies _ rfl (.tmp 96) (.tmp 98) 51 rfl w.heap.size 55 i0 _ 2 16 Tryz.underlying51 hi hz0 hz1 hz2 rfl (by decide) _ mk ((prC st).take (mk * 2)) rfl HRO.out ⟨w4.heap.size, 0, none⟩ 1 1 [.int .i64 (i : Int), .int .i64 1] rfl rfl HNW.out (by simp [Value.oneCell']) (by decide) HB1.out HB2.out HB3.out _ rfl ?_; intro g6 c6 w6 hown6 hgr6 hat6 hlt6; have HO6 := Lib.hid hown6; have HGR6 := Lib.hid hgr6; have HAT6 := Lib.hid hat6; clear hown6 hgr6 hat6)
                all_goals
                  have HX1 : Hid (Ext w4 (w4.alloc (.cells #[.int .i64 (i : Int), .int .i64 1] 55)).drew) := Lib.hid ((Ext.refl w4).alloc _).drew
                  have HTR := Lib.hid (two_own (u' := .slice (some ⟨g6, 0, none⟩) (mk + 1) c6) HS4.out HA4.out (fun g h1 h2 => HI.out.apart g h2 h1) HX1.out hgw HGR6.out HAT6.out rfl)
                  have hbp6 : Blk w6 w3.heap.size 55 #[.int .i64 (i : Int), .int .i64 1] := (HGR6.out.block w3.heap.size (Nat.lt_of_lt_of_le hbpl HX1.out.size) (by intro he; cases he)).trans (HBP.out.ext HX1.out)
                  obtain ⟨y0, y1⟩ := hbp6.two'
                  have HS6 : Hid (RowP w.heap.size w6 (.slice (some ⟨g6, 0, none⟩) (mk + 1) c6) (mk + 1) (st.take mk ++ [(i, 1)])) := Lib.hid (by unfold RowP; rw [prC_append, prC_one, ← prC_take]; exact HO6.out)
                  have HRO2 : Hid ((w6.alloc (.cells #[.int .i64 (i : Int), .int .i64 1] 55)).ownsRow w.heap.size 55 2 (.slice A4 i c4) i (prC all)) := Lib.hid (ownsRow_below HTR.out.1 (fun k _ hk => Below.heap_alloc w6 _ k hk))
                  have HNW2 := Lib.hid (newsL w6 55 [.int .i64 (i : Int), .int .i64 1])
                  have HB4 : Hid (i + 1 ≤ maxLen) := Lib.hid (by unfold maxLen; omega)
                  have HB5 : Hid ((i + 1) * 16 ≤ 140737488355328) := Lib.hid (by omega)
                  have hgw6 : w.heap.size ≤ w6.heap.size := Nat.le_trans hgw HTR.out.2.2.size
                  have HB6 : Hid (w.heap.size ≤ (w6.alloc (.cells #[.int .i64 (i : Int), .int .i64 1] 55)).heap.size) := Lib.hid (by simp; omega)
                  clear hbp6 p0 p1
                  go_wp2_with (at_builtin; go_must (refine wpList_append_lies _ rfl _ _ 51 rfl w.heap.size 55 i0 _ 2 16 Tryz.underlying51 hi hz0 hz1 hz2 rfl (by decide) (.slice A4 i c4) i (prC all) rfl HRO2.out ⟨w6.heap.size, 0, none⟩ 1 1 [.int .i64 (i : Int), .int .i64 1] rfl rfl HNW2.out (by simp [Value.oneCell']) (by decide) HB4.out HB5.out HB6.out _ rfl ?_; intro g7 c7 w7 hown7 hgr7 hat7 hlt7; have HTS := Lib.hid (two_own (u' := .slice (some ⟨g7, 0, none⟩) (i + 1) c7) HTR.out.1 HS6.out (fun g h1 h2 => HTR.out.2.1 g h2 h1) ((Ext.refl w6).alloc _) hgw6 hgr7 hat7 rfl); have HA7 : Hid (RowP w.heap.size w7 (.slice (some ⟨g7, 0, none⟩) (i + 1) c7) (i + 1) (all ++ [(i, 1)])) := Lib.hid (by unfold RowP; rw [prC_append, prC_one]; exact hown7); clear hown7 hgr7 hat7))
                  go_wp2_with fail
                  go_roundw
                  case rel => exact ⟨i + 1, _, _, by omega, by go_num, HI.out.next HND.out HSQ.out HA7.out HTS.out.1 HMKL.out HTS.out.2.1 ((HX.out.trans HX4.out).more (HTR.out.2.2.trans HTS.out.2.2)) (by have := HBD.out; exact this)⟩
                  case measure => simp [intOf]; omega
              · injection he with he1 he2 he3
                subst he1
                subst he3
                clear he2
                obtain ⟨w4, hw4⟩ : ∃ w4, w4 = (w3.alloc (.cells #[.int .i64 (i : Int), .int .i64 1] 55)).alloc (.cells #[.int .i64 kd, .int .i64 0, .int .i64 0, .int .i64 nn, .string s] 42) := ⟨_, rfl⟩
                rw [← hw4]
                have hx34 : Ext w3 w4 := by rw [hw4]; exact (((Ext.refl w3).alloc _).alloc _)
                have hbp : Blk w4 w3.heap.size 55 #[.int .i64 (i : Int), .int .i64 1] := by rw [hw4]; exact ((Blk.new w3 _ _).alloc _)
                have HX4 := Lib.hid (HX3.out.trans hx34)
                have HBP := Lib.hid hbp
                obtain ⟨p0, p1⟩ := hbp.two'
                obtain ⟨mk, hmk⟩ : ∃ mk, mk = ms - 0 := ⟨_, rfl⟩
                have hwk : IntKind.i64.wrap (ms : Int) = (mk : Int) := by rw [IntWalk.i64_in _ (by omega)]; omega
                have hmc : mk ≤ c5 := by omega
                have hgw : w.heap.size ≤ w4.heap.size := Nat.le_trans HX.out.size HX4.out.size
                have HS4 := Lib.hid (ownsRow_take (m := mk) (HRS.out.ext HX4.out) (by omega))
                have HA4 := Lib.hid (HRA.out.ext HX4.out)
                have hbpl := hbp.lt
                have hgpr : wr.heap.size ≤ w3.heap.size := HX3.out.size
                have HMKL : Hid (mk ≤ st.length) := Lib.hid (by rw [← HMS.out]; omega)
                have HSQ : Hid (prStep i st ⟨kd, 0, 0, nn, nt⟩ = some ((i, 1), st.take mk ++ [(i, 1)])) := Lib.hid (by rw [hmk]; exact HSP.out)
                have HRO : Hid ((w4.alloc (.cells #[.int .i64 (i : Int), .int .i64 1] 55)).drew.ownsRow w.heap.size 55 2 (.slice (some ⟨g5, 0, none⟩) mk c5) mk ((prC st).take (mk * 2))) := Lib.hid (ownsRow_below HS4.out (fun k _ hk => Below.heap_alloc w4 _ k hk))
                have HNW : Hid (∀ (j : Nat) (u : Value), [Value.int .i64 (i : Int), Value.int .i64 1][j]? = some u → (w4.alloc (.cells #[.int .i64 (i : Int), .int .i64 1] 55)).drew.cell? ((⟨w4.heap.size, 0, none⟩ : Addr).add j) = some u) := Lib.hid (newsL w4 55 [.int .i64 (i : Int), .int .i64 1])
                have HB1 : Hid (mk + 1 ≤ maxLen) := Lib.hid (by unfold maxLen; omega)
                have HB2 : Hid ((mk + 1) * 16 ≤ 140737488355328) := Lib.hid (by omega)
                have HB3 : Hid (w.heap.size ≤ (w4.alloc (.cells #[.int .i64 (i : Int), .int .i64 1] 55)).drew.heap.size) := Lib.hid (by simp; omega)
                clear hw4 hbp hx34 hmk q0 q1 q2 q3 q4
                go_region_law (refine step_append_lies _ rfl (.tmp 96) (.tmp 98) 51 rfl w.heap.size 55 i0 _ 2 16 Tryz.underlying51 hi hz0 hz1 hz2 rfl (by decide) _ mk ((prC st).take (mk * 2)) rfl HRO.out ⟨w4.heap.size, 0, none⟩ 1 1 [.int .i64 (i : Int), .int .i64 1] rfl rfl HNW.out (by simp [Value.oneCell']) (by decide) HB1.out HB2.out HB3.out _ rfl ?_; intro g6 c6 w6 hown6 hgr6 hat6 hlt6; have HO6 := Lib.hid hown6; have HGR6 := Lib.hid hgr6; have HAT6 := Lib.hid hat6; clear hown6 hgr6 hat6)
                all_goals
                  have HX1 : Hid (Ext w4 (w4.alloc (.cells #[.int .i64 (i : Int), .int .i64 1] 55)).drew) := Lib.hid ((Ext.refl w4).alloc _).drew
                  have HTR := Lib.hid (two_own (u' := .slice (some ⟨g6, 0, none⟩) (mk + 1) c6) HS4.out HA4.out (fun g h1 h2 => HI.out.apart g h2 h1) HX1.out hgw HGR6.out HAT6.out rfl)
                  have hbp6 : Blk w6 w3.heap.size 55 #[.int .i64 (i : Int), .int .i64 1] := (HGR6.out.block w3.heap.size (Nat.lt_of_lt_of_le hbpl HX1.out.size) (by intro he; have he2 : w3.heap.size = g5 := Option.some.inj he; have := (ownsRow_blt HRS.out g5 rfl).2; omega)).trans (HBP.out.ext HX1.out)
                  obtain ⟨y0, y1⟩ := hbp6.two'
                  have HS6 : Hid (RowP w.heap.size w6 (.slice (some ⟨g6, 0, none⟩) (mk + 1) c6) (mk + 1) (st.take mk ++ [(i, 1)])) := Lib.hid (by unfold RowP; rw [prC_append, prC_one, ← prC_take]; exact HO6.out)
                  have HRO2 : Hid ((w6.alloc (.cells #[.int .i64 (i : Int), .int .i64 1] 55)).ownsRow w.heap.size 55 2 (.slice A4 i c4) i (prC all)) := Lib.hid (ownsRow_below HTR.out.1 (fun k _ hk => Below.heap_alloc w6 _ k hk))
                  have HNW2 := Lib.hid (newsL w6 55 [.int .i64 (i : Int), .int .i64 1])
                  have HB4 : Hid (i + 1 ≤ maxLen) := Lib.hid (by unfold maxLen; omega)
                  have HB5 : Hid ((i + 1) * 16 ≤ 140737488355328) := Lib.hid (by omega)
                  have hgw6 : w.heap.size ≤ w6.heap.size := Nat.le_trans hgw HTR.out.2.2.size
                  have HB6 : Hid (w.heap.size ≤ (w6.alloc (.cells #[.int .i64 (i : Int), .int .i64 1] 55)).heap.size) := Lib.hid (by simp; omega)
                  clear hbp6 p0 p1
                  go_wp2_with (at_builtin; go_must (refine wpList_append_lies _ rfl _ _ 51 rfl w.heap.size 55 i0 _ 2 16 Tryz.underlying51 hi hz0 hz1 hz2 rfl (by decide) (.slice A4 i c4) i (prC all) rfl HRO2.out ⟨w6.heap.size, 0, none⟩ 1 1 [.int .i64 (i : Int), .int .i64 1] rfl rfl HNW2.out (by simp [Value.oneCell']) (by decide) HB4.out HB5.out HB6.out _ rfl ?_; intro g7 c7 w7 hown7 hgr7 hat7 hlt7; have HTS := Lib.hid (two_own (u' := .slice (some ⟨g7, 0, none⟩) (i + 1) c7) HTR.out.1 HS6.out (fun g h1 h2 => HTR.out.2.1 g h2 h1) ((Ext.refl w6).alloc _) hgw6 hgr7 hat7 rfl); have HA7 : Hid (RowP w.heap.size w7 (.slice (some ⟨g7, 0, none⟩) (i + 1) c7) (i + 1) (all ++ [(i, 1)])) := Lib.hid (by unfold RowP; rw [prC_append, prC_one]; exact hown7); clear hown7 hgr7 hat7))
                  go_wp2_with fail
                  go_roundw
                  case rel => exact ⟨i + 1, _, _, by omega, by go_num, HI.out.next HND.out HSQ.out HA7.out HTS.out.1 HMKL.out HTS.out.2.1 ((HX.out.trans HX4.out).more (HTR.out.2.2.trans HTS.out.2.2)) (by have := HBD.out; exact this)⟩
                  case measure => simp [intOf]; omega
            · have HNO := Lib.hid (HBAD.out (prStep_0bad hop (fun h => hb2 h.2)))
              rw [hop] at HOP
              clear hop HBAD
              go_wp2_with fail
              refine (HOP.out _).mono ?_
              rintro e w2 ⟨rfl, rfl⟩
              go_wp2_with fail
              refine (HPL.out _ (HMW.out.ext HXA.out)).mono ?_
              rintro e w3 ⟨rfl, hx3⟩
              obtain ⟨q0, q1, q2, q3, q4⟩ := (HBN.out.ext hx3).five
              have hws := (HBN.out.ext hx3).lt
              have hws1 : wr.heap.size < w3.heap.size + 1 := by omega
              have hws2 : wr.heap.size < w3.heap.size + 1 + 1 := by omega
              have hws3 : wr.heap.size < w3.heap.size + 1 + 1 + 1 := by omega
              have HX3 := Lib.hid (HXA.out.trans hx3)
              clear hx3
              go_wp2_with fail
              go_ret2
              exact ⟨_, by rw [HNO.out]; rfl, HX.out.trans (HX3.out.trans ((((Ext.refl w3).alloc _).alloc _))), by rw [HNO.out, HFA.out]; exact HRA.out.ext (HX3.out.trans ((((Ext.refl w3).alloc _).alloc _)))⟩
          · have HNO := Lib.hid (HBAD.out (prStep_0bad hop (fun h => ha h.1)))
            rw [hop] at HOP
            clear hop HBAD
            go_wp2_with fail
            refine (HOP.out _).mono ?_
            rintro e w2 ⟨rfl, rfl⟩
            go_wp2_with fail
            refine (HPL.out _ (HMW.out.ext HXA.out)).mono ?_
            rintro e w3 ⟨rfl, hx3⟩
            obtain ⟨q0, q1, q2, q3, q4⟩ := (HBN.out.ext hx3).five
            have hws := (HBN.out.ext hx3).lt
            have hws1 : wr.heap.size < w3.heap.size + 1 := by omega
            have hws2 : wr.heap.size < w3.heap.size + 1 + 1 := by omega
            have hws3 : wr.heap.size < w3.heap.size + 1 + 1 + 1 := by omega
            have HX3 := Lib.hid (HXA.out.trans hx3)
            clear hx3
            go_wp2_with fail
            go_ret2
            exact ⟨_, by rw [HNO.out]; rfl, HX.out.trans (HX3.out.trans ((((Ext.refl w3).alloc _).alloc _))), by rw [HNO.out, HFA.out]; exact HRA.out.ext (HX3.out.trans ((((Ext.refl w3).alloc _).alloc _)))⟩
      · by_cases hmf : ms < 1
        · obtain rfl : ms = 0 := by omega
          have HNO := Lib.hid (HBAD.out (prStep_few (by rw [hop, ← HMS.out]; decide)))
          rw [hop] at HOP
          clear hop hp HBAD
          go_wp2_with fail
          refine (HOP.out _).mono ?_
          rintro e w2 ⟨rfl, rfl⟩
          go_wp2_with fail
          go_ret2
          exact ⟨_, by rw [HNO.out]; rfl, HX.out.trans HXA.out, by rw [HNO.out, HFA.out]; exact HRA.out.ext HXA.out⟩
        · have hm1 : 1 ≤ ms := by omega
          have hm1' : 0 < ms := by omega
          have hm1i : ¬ (ms : Int) < 1 := by omega
          cases hpb : p
          · rw [hpb] at hp HPL
            have HNO := Lib.hid (HBAD.out (prStep_plain hp.symm))
            rw [hop] at HOP
            clear hop hp HBAD hpb
            go_wp2_with fail
            refine (HOP.out _).mono ?_
            rintro e w2 ⟨rfl, rfl⟩
            go_wp2_with fail
            refine (HPL.out _ (HMW.out.ext HXA.out)).mono ?_
            rintro e w3 ⟨rfl, hx3⟩
            obtain ⟨q0, q1, q2, q3, q4⟩ := (HBN.out.ext hx3).five
            have hws := (HBN.out.ext hx3).lt
            have hws1 : wr.heap.size < w3.heap.size + 1 := by omega
            have hws2 : wr.heap.size < w3.heap.size + 1 + 1 := by omega
            have hws3 : wr.heap.size < w3.heap.size + 1 + 1 + 1 := by omega
            have HX3 := Lib.hid (HXA.out.trans hx3)
            clear hx3
            go_wp2_with fail
            go_ret2
            exact ⟨_, by rw [HNO.out]; rfl, HX.out.trans HX3.out, by rw [HNO.out, HFA.out]; exact HRA.out.ext HX3.out⟩
          · rw [hpb] at hp HPL
            have HPB := Lib.hid hp.symm
            clear hpb hp
            obtain ⟨g5, d5, he5, hbg5, hlg5⟩ := HRS.out.form (by omega)
            injection he5 with he5 hx5 hy5
            subst he5
            clear hx5 hy5
            obtain ⟨z1, hz1'⟩ : ∃ z1 : Int, z1 = (ms : Int) - 1 := ⟨_, rfl⟩
            have hj1 : z1.toNat = ms - 1 := by omega
            have hwz1 : IntKind.i64.wrap ((ms : Int) - 1) = z1 := by rw [IntWalk.i64_in _ (by omega), hz1']
            have hz1a : (0 : Int) ≤ z1 := by omega
            have hz1b : z1 < (ms : Int) := by omega
            obtain ⟨f1, hf1⟩ : ∃ f1, f1 = (st.getD (ms - 1) (0, 0)).1 := ⟨_, rfl⟩
            obtain ⟨d1, hd1⟩ : ∃ d1, d1 = (st.getD (ms - 1) (0, 0)).2 := ⟨_, rfl⟩
            have hlo1 := HLOW.out (ms - 1) (by omega)
            rw [← hf1, ← hd1] at hlo1
            have HCL1 : Hid (∀ W, RowP w.heap.size W (.slice (some ⟨g5, 0, none⟩) ms c5) ms st → W.cell? ⟨g5, z1.toNat * 2, none⟩ = some (.int .i64 (f1 : Int)) ∧ W.cell? ⟨g5, z1.toNat * 2 + 1, none⟩ = some (.int .i64 (d1 : Int))) := Lib.hid (fun W h => by rw [hj1, hf1, hd1]; exact h.get (ms - 1) (by omega))
            have HF1 := Lib.hid hf1
            have HD1 := Lib.hid hd1
            obtain ⟨zi, hzi⟩ : ∃ zi : Int, zi = (i : Int) - 1 := ⟨_, rfl⟩
            have hwzi : IntKind.i64.wrap ((i : Int) - 1) = zi := by rw [IntWalk.i64_in _ (by omega), hzi]
            have HZI := Lib.hid hzi
            have hwd1 : IntKind.i64.wrap ((d1 : Int) + 1) = ((d1 + 1 : Nat) : Int) := by rw [IntWalk.i64_in _ (by omega)]; omega
            obtain ⟨e1, he1⟩ : ∃ e1, e1 = d1 + 1 := ⟨_, rfl⟩
            rw [← he1] at hwd1
            have HE1 := Lib.hid he1
            have HZD1 := Lib.hid hz1'
            clear hf1 hd1 hzi he1 hz1' hj1
            by_cases ha : na = zi
            · subst ha
              by_cases hb2 : nb = 0
              · subst hb2
                have HSP : Hid (prStep i st ⟨kd, na, 0, nn, nt⟩ = some ((f1, e1), st.take (ms - 1) ++ [(f1, e1)])) := Lib.hid (by
                  have h := prStep_1 (i := i) (st := st) (n := nn) (t := nt) hop (by rw [← HZI.out]; exact HPB.out) (by rw [← HMS.out]; omega)
                  rw [← HZI.out, ← HMS.out, ← HF1.out, ← HD1.out, ← HE1.out] at h
                  exact h)
                have HBD : Hid (f1 ≤ i + 1 ∧ e1 ≤ i + 1) := Lib.hid ⟨by omega, by rw [HE1.out]; omega⟩
                have he1b : e1 ≤ 1000002 := by rw [HE1.out]; omega
                rw [hop] at HOP
                clear hop HBAD
                go_wp2_with fail
                refine (HOP.out _).mono ?_
                rintro e w2 ⟨rfl, rfl⟩
                go_wp2_with fail
                refine (HPL.out _ (HMW.out.ext HXA.out)).mono ?_
                rintro e w3 ⟨rfl, hx3⟩
                obtain ⟨q0, q1, q2, q3, q4⟩ := (HBN.out.ext hx3).five
                have hws := (HBN.out.ext hx3).lt
                have hws1 : wr.heap.size < w3.heap.size + 1 := by omega
                have hws2 : wr.heap.size < w3.heap.size + 1 + 1 := by omega
                have hws3 : wr.heap.size < w3.heap.size + 1 + 1 + 1 := by omega
                have HX3 := Lib.hid (HXA.out.trans hx3)
                clear hx3
                have hg5w := (ownsRow_blt (HRS.out.ext HX3.out) g5 rfl).2
                have hg5a : g5 < w3.heap.size + 1 := by omega
                have hg5b : g5 < w3.heap.size + 1 + 1 := by omega
                have hg5c : g5 < w3.heap.size + 1 + 1 + 1 := by omega
                obtain ⟨c51, c52⟩ := HCL1.out w3 (HRS.out.ext HX3.out)
                go_upto_region 20 with fail
                have hcp : ms ≤ c5 := by
                  rcases HRS.out.2 with ⟨he, h0⟩ | ⟨g5', cap5, cur5, he, _, _, hcp, _⟩
                  · cases he
                  · injection he with he1 he2 he3; rw [he3]; exact hcp
                obtain ⟨w4, hw4⟩ : ∃ w4, w4 = ((w3.alloc (.cells #[.int .i64 (f1 : Int), .int .i64 (e1 : Int)] 55)).alloc (.cells #[.int .i64 kd, .int .i64 na, .int .i64 0, .int .i64 nn, .string s] 42)).alloc (.cells #[.int .i64 (f1 : Int), .int .i64 (d1 : Int)] 55) := ⟨_, rfl⟩
                rw [← hw4]
                have hx34 : Ext w3 w4 := by rw [hw4]; exact ((((Ext.refl w3).alloc _).alloc _).alloc _)
                have hbp : Blk w4 w3.heap.size 55 #[.int .i64 (f1 : Int), .int .i64 (e1 : Int)] := by rw [hw4]; exact (((Blk.new w3 _ _).alloc _).alloc _)
                have HX4 := Lib.hid (HX3.out.trans hx34)
                have HBP := Lib.hid hbp
                obtain ⟨p0, p1⟩ := hbp.two'
                obtain ⟨mk, hmk⟩ : ∃ mk, mk = ms - 1 := ⟨_, rfl⟩
                have hzc : z1 ≤ (c5 : Int) := by have := HZD1.out; omega
                have hzt : z1.toNat = mk := by have := HZD1.out; omega
                have hgw : w.heap.size ≤ w4.heap.size := Nat.le_trans HX.out.size HX4.out.size
                have HS4 := Lib.hid (ownsRow_take (m := mk) (HRS.out.ext HX4.out) (by omega))
                have HA4 := Lib.hid (HRA.out.ext HX4.out)
                have hbpl := hbp.lt
                have hgpr : wr.heap.size ≤ w3.heap.size := HX3.out.size
                have HMKL : Hid (mk ≤ st.length) := Lib.hid (by rw [← HMS.out]; omega)
                have HSQ : Hid (prStep i st ⟨kd, na, 0, nn, nt⟩ = some ((f1, e1), st.take mk ++ [(f1, e1)])) := Lib.hid (by rw [hmk]; exact HSP.out)
                have HRO : Hid ((w4.alloc (.cells #[.int .i64 (f1 : Int), .int .i64 (e1 : Int)] 55)).drew.ownsRow w.heap.size 55 2 (.slice (some ⟨g5, 0, none⟩) mk c5) mk ((prC st).take (mk * 2))) := Lib.hid (ownsRow_below HS4.out (fun k _ hk => Below.heap_alloc w4 _ k hk))
                have HNW : Hid (∀ (j : Nat) (u : Value), [Value.int .i64 (f1 : Int), Value.int .i64 (e1 : Int)][j]? = some u → (w4.alloc (.cells #[.int .i64 (f1 : Int), .int .i64 (e1 : Int)] 55)).drew.cell? ((⟨w4.heap.size, 0, none⟩ : Addr).add j) = some u) := Lib.hid (newsL w4 55 [.int .i64 (f1 : Int), .int .i64 (e1 : Int)])
                have HB1 : Hid (mk + 1 ≤ maxLen) := Lib.hid (by unfold maxLen; omega)
                have HB2 : Hid ((mk + 1) * 16 ≤ 140737488355328) := Lib.hid (by omega)
                have HB3 : Hid (w.heap.size ≤ (w4.alloc (.cells #[.int .i64 (f1 : Int), .int .i64 (e1 : Int)] 55)).drew.heap.size) := Lib.hid (by simp; omega)
                clear hw4 hbp hx34 hmk q0 q1 q2 q3 q4
                go_region_law (refine step_append_lies _ rfl (.tmp 96) (.tmp 98) 51 rfl w.heap.size 55 i0 _ 2 16 Tryz.underlying51 hi hz0 hz1 hz2 rfl (by decide) _ mk ((prC st).take (mk * 2)) rfl HRO.out ⟨w4.heap.size, 0, none⟩ 1 1 [.int .i64 (f1 : Int), .int .i64 (e1 : Int)] rfl rfl HNW.out (by simp [Value.oneCell']) (by decide) HB1.out HB2.out HB3.out _ rfl ?_; intro g6 c6 w6 hown6 hgr6 hat6 hlt6; have HO6 := Lib.hid hown6; have HGR6 := Lib.hid hgr6; have HAT6 := Lib.hid hat6; clear hown6 hgr6 hat6)
                all_goals
                  have HX1 : Hid (Ext w4 (w4.alloc (.cells #[.int .i64 (f1 : Int), .int .i64 (e1 : Int)] 55)).drew) := Lib.hid ((Ext.refl w4).alloc _).drew
                  have HTR := Lib.hid (two_own (u' := .slice (some ⟨g6, 0, none⟩) (mk + 1) c6) HS4.out HA4.out (fun g h1 h2 => HI.out.apart g h2 h1) HX1.out hgw HGR6.out HAT6.out rfl)
                  have hbp6 : Blk w6 w3.heap.size 55 #[.int .i64 (f1 : Int), .int .i64 (e1 : Int)] := (HGR6.out.block w3.heap.size (Nat.lt_of_lt_of_le hbpl HX1.out.size) (by intro he; have he2 : w3.heap.size = g5 := Option.some.inj he; have := (ownsRow_blt HRS.out g5 rfl).2; omega)).trans (HBP.out.ext HX1.out)
                  obtain ⟨y0, y1⟩ := hbp6.two'
                  have HS6 : Hid (RowP w.heap.size w6 (.slice (some ⟨g6, 0, none⟩) (mk + 1) c6) (mk + 1) (st.take mk ++ [(f1, e1)])) := Lib.hid (by unfold RowP; rw [prC_append, prC_one, ← prC_take]; exact HO6.out)
                  have HRO2 : Hid ((w6.alloc (.cells #[.int .i64 (f1 : Int), .int .i64 (e1 : Int)] 55)).ownsRow w.heap.size 55 2 (.slice A4 i c4) i (prC all)) := Lib.hid (ownsRow_below HTR.out.1 (fun k _ hk => Below.heap_alloc w6 _ k hk))
                  have HNW2 := Lib.hid (newsL w6 55 [.int .i64 (f1 : Int), .int .i64 (e1 : Int)])
                  have HB4 : Hid (i + 1 ≤ maxLen) := Lib.hid (by unfold maxLen; omega)
                  have HB5 : Hid ((i + 1) * 16 ≤ 140737488355328) := Lib.hid (by omega)
                  have hgw6 : w.heap.size ≤ w6.heap.size := Nat.le_trans hgw HTR.out.2.2.size
                  have HB6 : Hid (w.heap.size ≤ (w6.alloc (.cells #[.int .i64 (f1 : Int), .int .i64 (e1 : Int)] 55)).heap.size) := Lib.hid (by simp; omega)
                  clear hbp6 p0 p1
                  go_wp2_with (at_builtin; go_must (refine wpList_append_lies _ rfl _ _ 51 rfl w.heap.size 55 i0 _ 2 16 Tryz.underlying51 hi hz0 hz1 hz2 rfl (by decide) (.slice A4 i c4) i (prC all) rfl HRO2.out ⟨w6.heap.size, 0, none⟩ 1 1 [.int .i64 (f1 : Int), .int .i64 (e1 : Int)] rfl rfl HNW2.out (by simp [Value.oneCell']) (by decide) HB4.out HB5.out HB6.out _ rfl ?_; intro g7 c7 w7 hown7 hgr7 hat7 hlt7; have HTS := Lib.hid (two_own (u' := .slice (some ⟨g7, 0, none⟩) (i + 1) c7) HTR.out.1 HS6.out (fun g h1 h2 => HTR.out.2.1 g h2 h1) ((Ext.refl w6).alloc _) hgw6 hgr7 hat7 rfl); have HA7 : Hid (RowP w.heap.size w7 (.slice (some ⟨g7, 0, none⟩) (i + 1) c7) (i + 1) (all ++ [(f1, e1)])) := Lib.hid (by unfold RowP; rw [prC_append, prC_one]; exact hown7); clear hown7 hgr7 hat7))
                  go_wp2_with fail
                  go_roundw
                  case rel => exact ⟨i + 1, _, _, by omega, by go_num, HI.out.next HND.out HSQ.out HA7.out HTS.out.1 HMKL.out HTS.out.2.1 ((HX.out.trans HX4.out).more (HTR.out.2.2.trans HTS.out.2.2)) (by have := HBD.out; exact this)⟩
                  case measure => simp [intOf]; omega
              · have HNO := Lib.hid (HBAD.out (prStep_1bad hop (fun h => hb2 h.2)))
                rw [hop] at HOP
                clear hop HBAD
                go_wp2_with fail
                refine (HOP.out _).mono ?_
                rintro e w2 ⟨rfl, rfl⟩
                go_wp2_with fail
                refine (HPL.out _ (HMW.out.ext HXA.out)).mono ?_
                rintro e w3 ⟨rfl, hx3⟩
                obtain ⟨q0, q1, q2, q3, q4⟩ := (HBN.out.ext hx3).five
                have hws := (HBN.out.ext hx3).lt
                have hws1 : wr.heap.size < w3.heap.size + 1 := by omega
                have hws2 : wr.heap.size < w3.heap.size + 1 + 1 := by omega
                have hws3 : wr.heap.size < w3.heap.size + 1 + 1 + 1 := by omega
                have HX3 := Lib.hid (HXA.out.trans hx3)
                clear hx3
                have hg5w := (ownsRow_blt (HRS.out.ext HX3.out) g5 rfl).2
                have hg5a : g5 < w3.heap.size + 1 := by omega
                have hg5b : g5 < w3.heap.size + 1 + 1 := by omega
                have hg5c : g5 < w3.heap.size + 1 + 1 + 1 := by omega
                obtain ⟨c51, c52⟩ := HCL1.out w3 (HRS.out.ext HX3.out)
                go_wp2_with fail
                go_ret2
                exact ⟨_, by rw [HNO.out]; rfl, HX.out.trans (HX3.out.trans (((((Ext.refl w3).alloc _).alloc _).alloc _))), by rw [HNO.out, HFA.out]; exact HRA.out.ext (HX3.out.trans (((((Ext.refl w3).alloc _).alloc _).alloc _)))⟩
            · have HNO := Lib.hid (HBAD.out (prStep_1bad hop (fun h => ha (h.1.trans HZI.out.symm))))
              rw [hop] at HOP
              clear hop HBAD
              go_wp2_with fail
              refine (HOP.out _).mono ?_
              rintro e w2 ⟨rfl, rfl⟩
              go_wp2_with fail
              refine (HPL.out _ (HMW.out.ext HXA.out)).mono ?_
              rintro e w3 ⟨rfl, hx3⟩
              obtain ⟨q0, q1, q2, q3, q4⟩ := (HBN.out.ext hx3).five
              have hws := (HBN.out.ext hx3).lt
              have hws1 : wr.heap.size < w3.heap.size + 1 := by omega
              have hws2 : wr.heap.size < w3.heap.size + 1 + 1 := by omega
              have hws3 : wr.heap.size < w3.heap.size + 1 + 1 + 1 := by omega
              have HX3 := Lib.hid (HXA.out.trans hx3)
              clear hx3
              have hg5w := (ownsRow_blt (HRS.out.ext HX3.out) g5 rfl).2
              have hg5a : g5 < w3.heap.size + 1 := by omega
              have hg5b : g5 < w3.heap.size + 1 + 1 := by omega
              have hg5c : g5 < w3.heap.size + 1 + 1 + 1 := by omega
              obtain ⟨c51, c52⟩ := HCL1.out w3 (HRS.out.ext HX3.out)
              go_wp2_with fail
              go_ret2
              exact ⟨_, by rw [HNO.out]; rfl, HX.out.trans (HX3.out.trans (((((Ext.refl w3).alloc _).alloc _).alloc _))), by rw [HNO.out, HFA.out]; exact HRA.out.ext (HX3.out.trans (((((Ext.refl w3).alloc _).alloc _).alloc _)))⟩
      · by_cases hmf : ms < 2
        · have hfd : decide (ms < 2) = true := decide_eq_true hmf
          have HNO := Lib.hid (HBAD.out (prStep_few (by rw [hop, ← HMS.out]; omega)))
          have hfw : ((ms : Int) < 2) := by omega
          rw [hop] at HOP
          clear hop hp HBAD
          go_wp2_with fail
          refine (HOP.out _).mono ?_
          rintro e w2 ⟨rfl, rfl⟩
          go_wp2_with fail
          go_ret2
          exact ⟨_, by rw [HNO.out]; rfl, HX.out.trans HXA.out, by rw [HNO.out, HFA.out]; exact HRA.out.ext HXA.out⟩
        · have hm1 : 2 ≤ ms := by omega
          have hm1d : decide (ms < 2) = false := decide_eq_false hmf
          have hm1i : ¬ (ms : Int) < 2 := by omega
          cases hpb : p
          · rw [hpb] at hp HPL
            have HNO := Lib.hid (HBAD.out (prStep_plain hp.symm))
            rw [hop] at HOP
            clear hop hp HBAD hpb
            go_wp2_with fail
            refine (HOP.out _).mono ?_
            rintro e w2 ⟨rfl, rfl⟩
            go_wp2_with fail
            refine (HPL.out _ (HMW.out.ext HXA.out)).mono ?_
            rintro e w3 ⟨rfl, hx3⟩
            obtain ⟨q0, q1, q2, q3, q4⟩ := (HBN.out.ext hx3).five
            have hws := (HBN.out.ext hx3).lt
            have hws1 : wr.heap.size < w3.heap.size + 1 := by omega
            have hws2 : wr.heap.size < w3.heap.size + 1 + 1 := by omega
            have hws3 : wr.heap.size < w3.heap.size + 1 + 1 + 1 := by omega
            have HX3 := Lib.hid (HXA.out.trans hx3)
            clear hx3
            go_wp2_with fail
            go_ret2
            exact ⟨_, by rw [HNO.out]; rfl, HX.out.trans HX3.out, by rw [HNO.out, HFA.out]; exact HRA.out.ext HX3.out⟩
          · rw [hpb] at hp HPL
            have HPB := Lib.hid hp.symm
            clear hpb hp
            obtain ⟨g5, d5, he5, hbg5, hlg5⟩ := HRS.out.form (by omega)
            injection he5 with he5 hx5 hy5
            subst he5
            clear hx5 hy5
            obtain ⟨z1, hz1'⟩ : ∃ z1 : Int, z1 = (ms : Int) - 1 := ⟨_, rfl⟩
            have hj1 : z1.toNat = ms - 1 := by omega
            have hwz1 : IntKind.i64.wrap ((ms : Int) - 1) = z1 := by rw [IntWalk.i64_in _ (by omega), hz1']
            have hz1a : (0 : Int) ≤ z1 := by omega
            have hz1b : z1 < (ms : Int) := by omega
            obtain ⟨f1, hf1⟩ : ∃ f1, f1 = (st.getD (ms - 1) (0, 0)).1 := ⟨_, rfl⟩
            obtain ⟨d1, hd1⟩ : ∃ d1, d1 = (st.getD (ms - 1) (0, 0)).2 := ⟨_, rfl⟩
            have hlo1 := HLOW.out (ms - 1) (by omega)
            rw [← hf1, ← hd1] at hlo1
            have HCL1 : Hid (∀ W, RowP w.heap.size W (.slice (some ⟨g5, 0, none⟩) ms c5) ms st → W.cell? ⟨g5, z1.toNat * 2, none⟩ = some (.int .i64 (f1 : Int)) ∧ W.cell? ⟨g5, z1.toNat * 2 + 1, none⟩ = some (.int .i64 (d1 : Int))) := Lib.hid (fun W h => by rw [hj1, hf1, hd1]; exact h.get (ms - 1) (by omega))
            have HF1 := Lib.hid hf1
            have HD1 := Lib.hid hd1
            obtain ⟨zi, hzi⟩ : ∃ zi : Int, zi = (i : Int) - 1 := ⟨_, rfl⟩
            have hwzi : IntKind.i64.wrap ((i : Int) - 1) = zi := by rw [IntWalk.i64_in _ (by omega), hzi]
            have HZI := Lib.hid hzi
            have hwd1 : IntKind.i64.wrap ((d1 : Int) + 1) = ((d1 + 1 : Nat) : Int) := by rw [IntWalk.i64_in _ (by omega)]; omega
            obtain ⟨e1, he1⟩ : ∃ e1, e1 = d1 + 1 := ⟨_, rfl⟩
            rw [← he1] at hwd1
            have HE1 := Lib.hid he1
            have HZD1 := Lib.hid hz1'
            clear hf1 hd1 hzi he1 hz1' hj1
            obtain ⟨z2, hz2'⟩ : ∃ z2 : Int, z2 = (ms : Int) - 2 := ⟨_, rfl⟩
            have hj2 : z2.toNat = ms - 2 := by omega
            have hwz2 : IntKind.i64.wrap ((ms : Int) - 2) = z2 := by rw [IntWalk.i64_in _ (by omega), hz2']
            have hz2a : (0 : Int) ≤ z2 := by omega
            have hz2b : z2 < (ms : Int) := by omega
            obtain ⟨f2, hf2⟩ : ∃ f2, f2 = (st.getD (ms - 2) (0, 0)).1 := ⟨_, rfl⟩
            obtain ⟨d2, hd2⟩ : ∃ d2, d2 = (st.getD (ms - 2) (0, 0)).2 := ⟨_, rfl⟩
            have hlo2 := HLOW.out (ms - 2) (by omega)
            rw [← hf2, ← hd2] at hlo2
            have HCL2 : Hid (∀ W, RowP w.heap.size W (.slice (some ⟨g5, 0, none⟩) ms c5) ms st → W.cell? ⟨g5, z2.toNat * 2, none⟩ = some (.int .i64 (f2 : Int)) ∧ W.cell? ⟨g5, z2.toNat * 2 + 1, none⟩ = some (.int .i64 (d2 : Int))) := Lib.hid (fun W h => by rw [hj2, hf2, hd2]; exact h.get (ms - 2) (by omega))
            have HF2 := Lib.hid hf2
            have HD2 := Lib.hid hd2
            have hwd2 : IntKind.i64.wrap ((d2 : Int) + 1) = ((d2 + 1 : Nat) : Int) := by rw [IntWalk.i64_in _ (by omega)]; omega
            obtain ⟨e2, he2⟩ : ∃ e2, e2 = d2 + 1 := ⟨_, rfl⟩
            rw [← he2] at hwd2
            have HE2 := Lib.hid he2
            obtain ⟨mx, hmx0⟩ : ∃ mx, mx = max e1 e2 := ⟨_, rfl⟩
            have hmx : max (e1 : Int) (e2 : Int) = (mx : Int) := by omega
            have HMX := Lib.hid hmx0
            obtain ⟨zf, hzf⟩ : ∃ zf : Int, zf = (f1 : Int) - 1 := ⟨_, rfl⟩
            have hwzf : IntKind.i64.wrap ((f1 : Int) - 1) = zf := by rw [IntWalk.i64_in _ (by omega), hzf]
            have HZF := Lib.hid hzf
            have HZD2 := Lib.hid hz2'
            clear hf2 hd2 he2 hz2' hj2 hmx0 hzf
            by_cases ha : na = zf
            · subst ha
              by_cases hb2 : nb = zi
              · subst hb2
                have HSP : Hid (prStep i st ⟨kd, na, nb, nn, nt⟩ = some ((f2, mx), st.take (ms - 2) ++ [(f2, mx)])) := Lib.hid (by
                  have h := prStep_2 (i := i) (st := st) (n := nn) (t := nt) hop (by rw [← HMS.out, ← HF1.out, ← HZF.out, ← HZI.out]; exact HPB.out) (by rw [← HMS.out]; omega)
                  rw [← HMS.out, ← HF1.out, ← HZF.out, ← HZI.out, ← HF2.out, ← HD1.out, ← HD2.out, ← HE1.out, ← HE2.out, ← HMX.out] at h
                  exact h)
                have HBD : Hid (f2 ≤ i + 1 ∧ mx ≤ i + 1) := Lib.hid ⟨by omega, by rw [HMX.out, HE1.out, HE2.out]; omega⟩
                have hmxb : mx ≤ 1000002 := by rw [HMX.out, HE1.out, HE2.out]; omega
                rw [hop] at HOP
                clear hop HBAD
                go_wp2_with fail
                refine (HOP.out _).mono ?_
                rintro e w2 ⟨rfl, rfl⟩
                go_wp2_with fail
                refine (HPL.out _ (HMW.out.ext HXA.out)).mono ?_
                rintro e w3 ⟨rfl, hx3⟩
                obtain ⟨q0, q1, q2, q3, q4⟩ := (HBN.out.ext hx3).five
                have hws := (HBN.out.ext hx3).lt
                have hws1 : wr.heap.size < w3.heap.size + 1 := by omega
                have hws2 : wr.heap.size < w3.heap.size + 1 + 1 := by omega
                have hws3 : wr.heap.size < w3.heap.size + 1 + 1 + 1 := by omega
                have HX3 := Lib.hid (HXA.out.trans hx3)
                clear hx3
                have hg5w := (ownsRow_blt (HRS.out.ext HX3.out) g5 rfl).2
                have hg5a : g5 < w3.heap.size + 1 := by omega
                have hg5b : g5 < w3.heap.size + 1 + 1 := by omega
                have hg5c : g5 < w3.heap.size + 1 + 1 + 1 := by omega
                obtain ⟨c51, c52⟩ := HCL1.out w3 (HRS.out.ext HX3.out)
                obtain ⟨c53, c54⟩ := HCL2.out w3 (HRS.out.ext HX3.out)
                go_upto_region 20 with fail
                have hcp : ms ≤ c5 := by
                  rcases HRS.out.2 with ⟨he, h0⟩ | ⟨g5', cap5, cur5, he, _, _, hcp, _⟩
                  · cases he
                  · injection he with he1 he2 he3; rw [he3]; exact hcp
                obtain ⟨w4, hw4⟩ : ∃ w4, w4 = (((w3.alloc (.cells #[.int .i64 (f2 : Int), .int .i64 (mx : Int)] 55)).alloc (.cells #[.int .i64 kd, .int .i64 na, .int .i64 nb, .int .i64 nn, .string s] 42)).alloc (.cells #[.int .i64 (f1 : Int), .int .i64 (d1 : Int)] 55)).alloc (.cells #[.int .i64 (f2 : Int), .int .i64 (d2 : Int)] 55) := ⟨_, rfl⟩
                rw [← hw4]
                have hx34 : Ext w3 w4 := by rw [hw4]; exact (((((Ext.refl w3).alloc _).alloc _).alloc _).alloc _)
                have hbp : Blk w4 w3.heap.size 55 #[.int .i64 (f2 : Int), .int .i64 (mx : Int)] := by rw [hw4]; exact ((((Blk.new w3 _ _).alloc _).alloc _).alloc _)
                have HX4 := Lib.hid (HX3.out.trans hx34)
                have HBP := Lib.hid hbp
                obtain ⟨p0, p1⟩ := hbp.two'
                obtain ⟨mk, hmk⟩ : ∃ mk, mk = ms - 2 := ⟨_, rfl⟩
                have hzc : z2 ≤ (c5 : Int) := by have := HZD2.out; omega
                have hzt : z2.toNat = mk := by have := HZD2.out; omega
                have hgw : w.heap.size ≤ w4.heap.size := Nat.le_trans HX.out.size HX4.out.size
                have HS4 := Lib.hid (ownsRow_take (m := mk) (HRS.out.ext HX4.out) (by omega))
                have HA4 := Lib.hid (HRA.out.ext HX4.out)
                have hbpl := hbp.lt
                have hgpr : wr.heap.size ≤ w3.heap.size := HX3.out.size
                have HMKL : Hid (mk ≤ st.length) := Lib.hid (by rw [← HMS.out]; omega)
                have HSQ : Hid (prStep i st ⟨kd, na, nb, nn, nt⟩ = some ((f2, mx), st.take mk ++ [(f2, mx)])) := Lib.hid (by rw [hmk]; exact HSP.out)
                have HRO : Hid ((w4.alloc (.cells #[.int .i64 (f2 : Int), .int .i64 (mx : Int)] 55)).drew.ownsRow w.heap.size 55 2 (.slice (some ⟨g5, 0, none⟩) mk c5) mk ((prC st).take (mk * 2))) := Lib.hid (ownsRow_below HS4.out (fun k _ hk => Below.heap_alloc w4 _ k hk))
                have HNW : Hid (∀ (j : Nat) (u : Value), [Value.int .i64 (f2 : Int), Value.int .i64 (mx : Int)][j]? = some u → (w4.alloc (.cells #[.int .i64 (f2 : Int), .int .i64 (mx : Int)] 55)).drew.cell? ((⟨w4.heap.size, 0, none⟩ : Addr).add j) = some u) := Lib.hid (newsL w4 55 [.int .i64 (f2 : Int), .int .i64 (mx : Int)])
                have HB1 : Hid (mk + 1 ≤ maxLen) := Lib.hid (by unfold maxLen; omega)
                have HB2 : Hid ((mk + 1) * 16 ≤ 140737488355328) := Lib.hid (by omega)
                have HB3 : Hid (w.heap.size ≤ (w4.alloc (.cells #[.int .i64 (f2 : Int), .int .i64 (mx : Int)] 55)).drew.heap.size) := Lib.hid (by simp; omega)
                clear hw4 hbp hx34 hmk q0 q1 q2 q3 q4
                go_region_law (refine step_append_lies _ rfl (.tmp 96) (.tmp 98) 51 rfl w.heap.size 55 i0 _ 2 16 Tryz.underlying51 hi hz0 hz1 hz2 rfl (by decide) _ mk ((prC st).take (mk * 2)) rfl HRO.out ⟨w4.heap.size, 0, none⟩ 1 1 [.int .i64 (f2 : Int), .int .i64 (mx : Int)] rfl rfl HNW.out (by simp [Value.oneCell']) (by decide) HB1.out HB2.out HB3.out _ rfl ?_; intro g6 c6 w6 hown6 hgr6 hat6 hlt6; have HO6 := Lib.hid hown6; have HGR6 := Lib.hid hgr6; have HAT6 := Lib.hid hat6; clear hown6 hgr6 hat6)
                all_goals
                  have HX1 : Hid (Ext w4 (w4.alloc (.cells #[.int .i64 (f2 : Int), .int .i64 (mx : Int)] 55)).drew) := Lib.hid ((Ext.refl w4).alloc _).drew
                  have HTR := Lib.hid (two_own (u' := .slice (some ⟨g6, 0, none⟩) (mk + 1) c6) HS4.out HA4.out (fun g h1 h2 => HI.out.apart g h2 h1) HX1.out hgw HGR6.out HAT6.out rfl)
                  have hbp6 : Blk w6 w3.heap.size 55 #[.int .i64 (f2 : Int), .int .i64 (mx : Int)] := (HGR6.out.block w3.heap.size (Nat.lt_of_lt_of_le hbpl HX1.out.size) (by intro he; have he2 : w3.heap.size = g5 := Option.some.inj he; have := (ownsRow_blt HRS.out g5 rfl).2; omega)).trans (HBP.out.ext HX1.out)
                  obtain ⟨y0, y1⟩ := hbp6.two'
                  have HS6 : Hid (RowP w.heap.size w6 (.slice (some ⟨g6, 0, none⟩) (mk + 1) c6) (mk + 1) (st.take mk ++ [(f2, mx)])) := Lib.hid (by unfold RowP; rw [prC_append, prC_one, ← prC_take]; exact HO6.out)
                  have HRO2 : Hid ((w6.alloc (.cells #[.int .i64 (f2 : Int), .int .i64 (mx : Int)] 55)).ownsRow w.heap.size 55 2 (.slice A4 i c4) i (prC all)) := Lib.hid (ownsRow_below HTR.out.1 (fun k _ hk => Below.heap_alloc w6 _ k hk))
                  have HNW2 := Lib.hid (newsL w6 55 [.int .i64 (f2 : Int), .int .i64 (mx : Int)])
                  have HB4 : Hid (i + 1 ≤ maxLen) := Lib.hid (by unfold maxLen; omega)
                  have HB5 : Hid ((i + 1) * 16 ≤ 140737488355328) := Lib.hid (by omega)
                  have hgw6 : w.heap.size ≤ w6.heap.size := Nat.le_trans hgw HTR.out.2.2.size
                  have HB6 : Hid (w.heap.size ≤ (w6.alloc (.cells #[.int .i64 (f2 : Int), .int .i64 (mx : Int)] 55)).heap.size) := Lib.hid (by simp; omega)
                  clear hbp6 p0 p1
                  go_wp2_with (at_builtin; go_must (refine wpList_append_lies _ rfl _ _ 51 rfl w.heap.size 55 i0 _ 2 16 Tryz.underlying51 hi hz0 hz1 hz2 rfl (by decide) (.slice A4 i c4) i (prC all) rfl HRO2.out ⟨w6.heap.size, 0, none⟩ 1 1 [.int .i64 (f2 : Int), .int .i64 (mx : Int)] rfl rfl HNW2.out (by simp [Value.oneCell']) (by decide) HB4.out HB5.out HB6.out _ rfl ?_; intro g7 c7 w7 hown7 hgr7 hat7 hlt7; have HTS := Lib.hid (two_own (u' := .slice (some ⟨g7, 0, none⟩) (i + 1) c7) HTR.out.1 HS6.out (fun g h1 h2 => HTR.out.2.1 g h2 h1) ((Ext.refl w6).alloc _) hgw6 hgr7 hat7 rfl); have HA7 : Hid (RowP w.heap.size w7 (.slice (some ⟨g7, 0, none⟩) (i + 1) c7) (i + 1) (all ++ [(f2, mx)])) := Lib.hid (by unfold RowP; rw [prC_append, prC_one]; exact hown7); clear hown7 hgr7 hat7))
                  go_wp2_with fail
                  go_roundw
                  case rel => exact ⟨i + 1, _, _, by omega, by go_num, HI.out.next HND.out HSQ.out HA7.out HTS.out.1 HMKL.out HTS.out.2.1 ((HX.out.trans HX4.out).more (HTR.out.2.2.trans HTS.out.2.2)) (by have := HBD.out; exact this)⟩
                  case measure => simp [intOf]; omega
              · have HNO := Lib.hid (HBAD.out (prStep_2bad hop (fun h => hb2 (h.2.trans HZI.out.symm))))
                rw [hop] at HOP
                clear hop HBAD
                go_wp2_with fail
                refine (HOP.out _).mono ?_
                rintro e w2 ⟨rfl, rfl⟩
                go_wp2_with fail
                refine (HPL.out _ (HMW.out.ext HXA.out)).mono ?_
                rintro e w3 ⟨rfl, hx3⟩
                obtain ⟨q0, q1, q2, q3, q4⟩ := (HBN.out.ext hx3).five
                have hws := (HBN.out.ext hx3).lt
                have hws1 : wr.heap.size < w3.heap.size + 1 := by omega
                have hws2 : wr.heap.size < w3.heap.size + 1 + 1 := by omega
                have hws3 : wr.heap.size < w3.heap.size + 1 + 1 + 1 := by omega
                have HX3 := Lib.hid (HXA.out.trans hx3)
                clear hx3
                have hg5w := (ownsRow_blt (HRS.out.ext HX3.out) g5 rfl).2
                have hg5a : g5 < w3.heap.size + 1 := by omega
                have hg5b : g5 < w3.heap.size + 1 + 1 := by omega
                have hg5c : g5 < w3.heap.size + 1 + 1 + 1 := by omega
                obtain ⟨c51, c52⟩ := HCL1.out w3 (HRS.out.ext HX3.out)
                obtain ⟨c53, c54⟩ := HCL2.out w3 (HRS.out.ext HX3.out)
                go_wp2_with fail
                go_ret2
                exact ⟨_, by rw [HNO.out]; rfl, HX.out.trans (HX3.out.trans ((((((Ext.refl w3).alloc _).alloc _).alloc _).alloc _))), by rw [HNO.out, HFA.out]; exact HRA.out.ext (HX3.out.trans ((((((Ext.refl w3).alloc _).alloc _).alloc _).alloc _)))⟩
            · have HNO := Lib.hid (HBAD.out (prStep_2bad hop (fun h => ha (h.1.trans (by rw [← HMS.out, ← HF1.out]; exact HZF.out.symm)))))
              rw [hop] at HOP
              clear hop HBAD
              go_wp2_with fail
              refine (HOP.out _).mono ?_
              rintro e w2 ⟨rfl, rfl⟩
              go_wp2_with fail
              refine (HPL.out _ (HMW.out.ext HXA.out)).mono ?_
              rintro e w3 ⟨rfl, hx3⟩
              obtain ⟨q0, q1, q2, q3, q4⟩ := (HBN.out.ext hx3).five
              have hws := (HBN.out.ext hx3).lt
              have hws1 : wr.heap.size < w3.heap.size + 1 := by omega
              have hws2 : wr.heap.size < w3.heap.size + 1 + 1 := by omega
              have hws3 : wr.heap.size < w3.heap.size + 1 + 1 + 1 := by omega
              have HX3 := Lib.hid (HXA.out.trans hx3)
              clear hx3
              have hg5w := (ownsRow_blt (HRS.out.ext HX3.out) g5 rfl).2
              have hg5a : g5 < w3.heap.size + 1 := by omega
              have hg5b : g5 < w3.heap.size + 1 + 1 := by omega
              have hg5c : g5 < w3.heap.size + 1 + 1 + 1 := by omega
              obtain ⟨c51, c52⟩ := HCL1.out w3 (HRS.out.ext HX3.out)
              obtain ⟨c53, c54⟩ := HCL2.out w3 (HRS.out.ext HX3.out)
              go_wp2_with fail
              go_ret2
              exact ⟨_, by rw [HNO.out]; rfl, HX.out.trans (HX3.out.trans ((((((Ext.refl w3).alloc _).alloc _).alloc _).alloc _))), by rw [HNO.out, HFA.out]; exact HRA.out.ext (HX3.out.trans ((((((Ext.refl w3).alloc _).alloc _).alloc _).alloc _)))⟩
    · obtain rfl : i = n := by omega
      have hgo := hinv.go
      rw [List.drop_eq_nil_of_le (by rw [← HN.out]; exact Nat.le_refl _), prGo, ← HMS.out] at hgo
      have HGO := Lib.hid hgo
      have HX := Lib.hid hinv.ext
      have HRA := Lib.hid hinv.ra
      have HFA := Lib.hid hinv.ra.len
      clear hinv hgo
      go_wp2_with fail
      go_ret2
      exact ⟨_, by rw [HGO.out]; rfl, HX.out, by rw [HGO.out, HFA.out]; exact HRA.out⟩
end Big
end Go.Proofs.YtgopljllknbelaaGreatDoor
