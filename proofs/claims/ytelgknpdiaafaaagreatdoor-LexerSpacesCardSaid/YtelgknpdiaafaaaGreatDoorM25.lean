import Derived.Test.YtelgknpdiaafaaaGreatDoorM24
import Derived.Test.YtelgknpdiaafaaaGreatDoorRows
import Derived.Test.YtelgknpdiaafaaaGreatDoorM3
import Derived.ProofKit
import Derived.LaidMore
import Derived.OpenShut
import Derived.Stop.Joined
import Derived.Lib.LaidTab
import Derived.Carry
import Derived.Handed
import Derived.HandedShaped
import Derived.Deep.Strs
import Derived.ChangeMaps5
import Derived.Lib.SmallJoins
import Derived.Test.YtelgknpdiaafaaaGreatDoorM18
/- LexerSpaces. -/
namespace Go.Proofs.YtelgknpdiaafaaaGreatDoor
namespace Big
open Go.RowKit
theorem Cov.len {x : List UInt8} (g : List UInt8) : ∀ {a : Nat} {ts : List Tok}, Cov x a ts → ∀ m, g.length ≤ m → (joinG g ts).length + (m + 1) * a ≤ (m + 1) * x.length
  | a, [], h, m, _ => by
    have := Nat.mul_le_mul_left (m + 1) h.1
    rw [joinG, List.length_nil]
    omega
  | a, t :: ts, ⟨h1, h2, h3, _, _, h6⟩, m, hm => by
    have h7 := Cov.len g h6 m hm
    have hp : 1 ≤ t.text.length := List.length_pos_iff.2 h2
    rw [joinG, List.length_append, List.length_append]
    have h8 : (m + 1) * (t.at_ + t.text.length) = (m + 1) * t.at_ + (m + 1) * t.text.length := Nat.mul_add _ _ _
    have h9 := Nat.mul_le_mul_left (m + 1) h1
    have h10 : m * 1 ≤ m * t.text.length := Nat.mul_le_mul_left m hp
    have h11 : (m + 1) * t.text.length = m * t.text.length + t.text.length := by rw [Nat.add_mul, Nat.one_mul]
    omega
theorem joinG_take (g : List UInt8) (ts : List Tok) (j : Nat) (h : j < ts.length) : joinG g (ts.take (j + 1)) = (joinG g (ts.take j) ++ g) ++ ts[j].text := by
  rw [List.take_succ_eq_append_getElem h, joinG_append, joinG, joinG, List.append_nil, List.append_assoc]
theorem joinG_take_le (g : List UInt8) (ts : List Tok) (j : Nat) : (joinG g (ts.take j)).length ≤ (joinG g ts).length := by
  have h := joinG_append g (ts.take j) (ts.drop j)
  rw [List.take_append_drop] at h
  rw [h, List.length_append]
  omega
/-- What the first scan tells of the joined text. -/
theorem scan_join_len (x : List UInt8) (q : Nat) (hq : q ≤ 3) : (joinG (List.replicate q 32) (scanT x).1).length ≤ 1600 := by
  rcases scanT_code x with h | ⟨_, h⟩ | ⟨_, h, _⟩
  · have h1 := scanT_cov (l := x) (ts := (scanT x).1) (n := (scanT x).2.1) (by rw [← h])
    have h2 : x.length ≤ 400 := by
      rcases Nat.lt_or_ge 400 x.length with h3 | h3
      · unfold scanT at h
        rw [if_pos h3] at h
        cases h
      · exact h3
    have h4 := h1.2.1.len (List.replicate q 32) 3 (by simp; exact hq)
    omega
  · rw [h]; simp [joinG]
  · rw [h]; simp [joinG]
theorem gap_take (q : Nat) (h1 : q ≤ 4) : ([32, 32, 32, 32] : List UInt8).take q = List.replicate q 32 := by
  obtain rfl | rfl | rfl | rfl | rfl : q = 0 ∨ q = 1 ∨ q = 2 ∨ q = 3 ∨ q = 4 := by omega
  all_goals rfl
set_option maxHeartbeats 4000000 in
set_option maxRecDepth 100000 in
theorem lexerSpaces_any (w : World) (n : Int) (v : Value) (l : List Int) (h : ArrI w v l) (hn : -9223372036854775808 ≤ n ∧ n ≤ 9223372036854775807) (hm : MaxV w) :
    Calls Tryz.prog 5 #[v, .int .i64 n] w fun e w' => e = .returned (.bool true) ∧ Ext w w' := by
  have HAW := Lib.hid (awake18_any w hm)
  have HM := Lib.hid hm
  have HL := Lib.hid h
  have HLT := Lib.hid (fun W hx => light_any W v l (HL.out.ext hx))
  have HM3 := Lib.hid (fun W => mod_any W n 3 hn.1 hn.2 (by decide) (by decide))
  have hm1 := Int.emod_nonneg n (show (3 : Int) ≠ 0 by decide)
  have hm2 := Int.emod_lt_of_pos n (show (0 : Int) < 3 by decide)
  generalize n % 3 = m at *
  obtain ⟨m, rfl⟩ := Int.eq_ofNat_of_zero_le hm1
  obtain ⟨A0, c0, rfl, _⟩ := h.open
  clear h hm hm1
  by_cases hlt : 120 < l.length
  · have hd : decide (l.length ≤ 120) = false := decide_eq_false (by omega)
    rw [hd] at HLT
    clear HL hlt hd
    go_enter Tryz.func5, Tryz.ntmps5
    go_wp2_with fail
    refine HAW.out.mono ?_
    rintro e w1 ⟨rfl, hx1⟩
    have HX1 := Lib.hid hx1
    clear hx1
    go_wp2_with fail
    refine (HLT.out _ HX1.out).mono ?_
    rintro e w2 ⟨rfl, rfl⟩
    go_wp2_with fail
    go_ret
    exact ⟨rfl, HX1.out⟩
  have hd : decide (l.length ≤ 120) = true := decide_eq_true (by omega)
  rw [hd] at HLT
  have hll : l.length ≤ 120 := by omega
  clear hlt hd
  go_enter Tryz.func5, Tryz.ntmps5
  go_wp2_with fail
  refine HAW.out.mono ?_
  rintro e w1 ⟨rfl, hx1⟩
  have HX1 := Lib.hid hx1
  clear hx1
  go_wp2_with fail
  refine (HLT.out _ HX1.out).mono ?_
  rintro e w2 ⟨rfl, rfl⟩
  go_wp2_with fail
  refine (new_any _ _ l (HL.out.ext HX1.out) (by omega)).mono ?_
  rintro e w2 ⟨rfl, ht2, hx2, hs2⟩
  rw [← hs2] at ht2
  have HX2 := Lib.hid (HX1.out.trans hx2)
  have hg2 : w.heap.size ≤ w1.heap.size := HX1.out.size
  have hg3 : w.heap.size ≤ w2.heap.size := HX2.out.size
  have HEX := Lib.hid (expr_any 4 w1.heap.size w2 _ l 0 false ht2 (by decide) (by decide))
  generalize w1.heap.size = g at *
  clear ht2 hx2 hs2 HLT
  go_wp2_with fail
  refine HEX.out.mono ?_
  rintro e w3 ⟨x, v3, a3, rfl, hgd, hsz, hdp, hown, htp, hk⟩
  have HTX := Lib.hid (text_any w2.heap.size g w3 _ l a3 v3 x htp hk.size (by rw [List.nil_append] at hown; exact hown.read) hgd (by have : 2 ^ 4 ≤ 32 := (by decide); omega) (by omega))
  have HKB := Lib.hid hk
  obtain ⟨A3, c3, rfl⟩ := hown.shape
  have htl := wayT_len (nextV l a3 4) (nodeT fmtI x)
  have htl2 := nodeT_len fmtI fmtI_len x hgd
  have htt0 := wayT_pos (nextV l a3 4) (nodeT fmtI x) (nodeT_ne x hgd)
  have hsz2 : x.size ≤ 31 := by have : 2 ^ 4 ≤ 32 := (by decide); omega
  have htt : (wayT (nextV l a3 4) (nodeT fmtI x)).length ≤ 13000 := by omega
  generalize wayT (nextV l a3 4) (nodeT fmtI x) = tt at *
  clear hgd hsz hdp hown htp hk htl htl2 hsz2
  go_wp2_with fail
  refine HTX.out.mono ?_
  rintro e w4 ⟨rfl, _, hk4⟩
  have HX4 := Lib.hid ((HKB.out.trans hk4).to_ext HX2.out hg3 hg2)
  clear hk4 HTX HKB HEX hg2 hg3
  have HO1 := Lib.hid (scan_any w4 tt (HM.out.ext HX4.out))
  have hll2 := scanT_len tt
  obtain ⟨q, hq⟩ : ∃ q, q = m + 1 := ⟨_, rfl⟩
  have hq3 : q ≤ 3 := by omega
  have hjl := scan_join_len tt q hq3
  have HSJ : Hid ((scanT tt).2.2 = 0 → (joinG (List.replicate q 32) (scanT tt).1).length ≤ 400 → ∃ back, scanT (joinG (List.replicate q 32) (scanT tt).1) = (back, (joinG (List.replicate q 32) (scanT tt).1).length, 0) ∧ back.map (fun t => (t.kind, t.text)) = (scanT tt).1.map (fun t => (t.kind, t.text))) := Lib.hid (fun he hl => by
    subst hq
    exact scanT_join (l := tt) (ts := (scanT tt).1) (n := (scanT tt).2.1) (m := m) (by rw [← he]) hl)
  have HSE : Hid ((scanT tt).2.2 = 0 ∨ (scanT tt).1 = []) := Lib.hid (by
    rcases scanT_code tt with h | ⟨_, h⟩ | ⟨_, h, _⟩
    · exact .inl h
    · exact .inr h
    · exact .inr h)
  unfold ScanRes at HO1
  generalize (scanT tt).2.1 = sk at *
  generalize (scanT tt).2.2 = se at *
  generalize (scanT tt).1 = ts at *
  clear htt htt0
  go_wp2_with fail
  refine HO1.out.mono ?_
  rintro e w5 ⟨v5, rfl, hr5, hx5⟩
  obtain ⟨A5, c5, rfl⟩ := ownsRow_shape hr5
  have HR5 := Lib.hid (TokRow.of hr5)
  have HX5 := Lib.hid (HX4.out.trans hx5)
  clear hr5 hx5
  have hex : Value.string ((⟨#[32, 32, 32, 32]⟩ : ByteArray).extract 0 (1 + m)) = str (List.replicate q 32) := by
    have h1 := extract_str [32, 32, 32, 32] 0 (1 + m)
    rw [List.drop_zero, Nat.sub_zero, gap_take (1 + m) (by omega)] at h1
    rw [hq, Nat.add_comm m 1]
    exact congrArg Value.string h1
  go_wp2_with fail
  refine (HM3.out _).mono ?_
  rintro e w6 ⟨rfl, rfl⟩
  go_wp2_with fail
  rw [hex]
  have hgl : (List.replicate q (32 : UInt8)).length ≤ 3 := by simp; exact hq3
  clear hex hq hm2
  generalize List.replicate q (32 : UInt8) = gp at *
  obtain ⟨k, hk⟩ : ∃ k, k = ts.length := ⟨_, rfl⟩
  have HKT := Lib.hid hk
  rw [← hk] at hll2 ⊢
  clear hk
  have hs0 : str (joinG gp (ts.take 0)) = .string ⟨#[]⟩ := rfl
  go_loopw [10, 39] (fun s10 s39 wr => ∃ j : Nat, j ≤ k ∧ s10 = str (joinG gp (ts.take j)) ∧ s39 = .int .i64 (j : Int) ∧ Ext w5 wr) (fun _ s39 _ => k - (intOf s39).toNat)
  case atStart => exact ⟨0, Nat.zero_le _, rfl, rfl, Ext.refl w5⟩
  case round =>
    obtain ⟨j, hj, rfl, rfl, hx8⟩ := hrel
    have HX8 := Lib.hid hx8
    clear hs0
    by_cases hjt : j < k
    · have hjt2 : j < ts.length := by rw [← HKT.out]; exact hjt
      obtain ⟨A6, c6, hv6, hc6⟩ := (HR5.out.ext hx8).cells
      injection hv6 with hv6 hx1 hx2
      clear hx1 hx2
      obtain ⟨g6, hg6, hc6⟩ := hc6 (by omega)
      rw [hg6] at hv6
      obtain ⟨k0, k1, k2⟩ := hc6 j hjt2
      have HJ := Lib.hid (joinG_take gp ts j hjt2)
      have hjle := joinG_take_le gp ts j
      have hjle2 := joinG_take_le gp ts (j + 1)
      rw [joinG_take gp ts j hjt2, List.length_append] at hjle2
      clear hc6 hx8
      subst hv6
      generalize ts[j].text = tx at *
      generalize ts[j].at_ = ta at *
      generalize ts[j].kind = tk at *
      generalize joinG gp (ts.take j) = J at *
      have hadd1 := run_add_str J gp (by omega)
      have hadd2 := run_add_str (J ++ gp) tx (by omega)
      have HB8 := Lib.hid (Blk.new wr 40 #[.int .i64 (tk : Int), .int .i64 (ta : Int), str tx])
      obtain ⟨q0, q1, q2, _⟩ := HB8.out.three
      have HX9 := Lib.hid (HX8.out.alloc (.cells #[.int .i64 (tk : Int), .int .i64 (ta : Int), str tx] 40))
      go_wp2_with fail
      go_roundw
      case rel => exact ⟨j + 1, by omega, (by rw [HJ.out]; first | rfl | (rw [List.append_assoc]; done) | (rw [List.append_assoc]; rfl)), by go_num, HX9.out⟩
      case measure => simp [intOf]; omega
    · obtain rfl : j = k := by omega
      rw [List.take_of_length_le (by rw [← HKT.out]; exact Nat.le_refl _)]
      have HX6 := Lib.hid (HX5.out.trans hx8)
      have HR6 := Lib.hid (HR5.out.ext hx8)
      obtain ⟨J, hJ⟩ : ∃ J, J = joinG gp ts := ⟨_, rfl⟩
      rw [← hJ] at hjl HSJ ⊢
      have HJJ := Lib.hid hJ
      have HO2 := Lib.hid (scan_any wr J (HM.out.ext HX6.out))
      have HLG : Hid (400 < J.length → scanT J = ([], 0, 7)) := Lib.hid (fun h => by unfold scanT; rw [if_pos h])
      clear hx8 hJ
      unfold ScanRes at HO2
      by_cases hlong : 400 < J.length
      · rw [HLG.out hlong] at HO2
        have hli : (400 : Int) < (J.length : Int) := by omega
        clear HLG HSJ hlong
        go_wp2_with fail
        refine HO2.out.mono ?_
        rintro e w7 ⟨v7, rfl, hr7, hx7⟩
        obtain ⟨A7, c7, rfl⟩ := ownsRow_shape hr7
        have HX7 := Lib.hid (HX6.out.trans hx7)
        clear hr7 hx7
        go_wp2_with fail
        go_ret
        exact ⟨rfl, HX7.out⟩
      · have hli : ¬ (400 : Int) < (J.length : Int) := by omega
        by_cases he0 : se = 0
        · subst he0
          obtain ⟨back, hb1, hb2⟩ := HSJ.out rfl (by omega)
          rw [hb1] at HO2
          simp only at HO2
          have hbl : back.length = ts.length := by
            have := congrArg List.length hb2
            simpa using this
          have HB2 := Lib.hid hb2
          have HBL := Lib.hid hbl
          rw [← HKT.out] at hbl
          rw [hbl] at HO2
          clear HLG HSJ hb1 hb2 hlong hbl
          have hqq : ((j : Int) != (j : Int)) = false := by simp
          go_wp2_with fail
          refine HO2.out.mono ?_
          rintro e w7 ⟨v7, rfl, hr7, hx7⟩
          obtain ⟨A7, c7, rfl⟩ := ownsRow_shape hr7
          have HX7 := Lib.hid (HX6.out.trans hx7)
          have HR7 : Hid (TokRow w7 (.slice A7 j c7) back) := Lib.hid (TokRow.of (by rw [HBL.out, ← HKT.out]; exact hr7))
          have HR8 := Lib.hid (HR6.out.ext hx7)
          clear hr7 hx7
          generalize wr = wa at *
          go_wp2_with fail
          go_loopw [87] (fun s87 wr => ∃ i : Nat, i ≤ j ∧ s87 = .int .i64 (i : Int) ∧ Ext w7 wr) (fun s87 _ => j - (intOf s87).toNat)
          case atStart => exact ⟨0, Nat.zero_le _, rfl, Ext.refl w7⟩
          case round =>
            obtain ⟨i, hi, rfl, hx9⟩ := hrel
            have HX9 := Lib.hid hx9
            by_cases hit : i < j
            · have hit2 : i < ts.length := by rw [← HKT.out]; exact hit
              have hit3 : i < back.length := by rw [HBL.out]; exact hit2
              obtain ⟨A8, c8, hv8, hc8⟩ := (HR8.out.ext hx9).cells
              injection hv8 with hv8 hx1 hx2
              clear hx1 hx2
              obtain ⟨g8, hg8, hc8⟩ := hc8 (by omega)
              rw [hg8] at hv8
              obtain ⟨k0, _, k2⟩ := hc8 i hit2
              obtain ⟨A9, c9, hv9, hc9⟩ := (HR7.out.ext hx9).cells
              injection hv9 with hv9 hx1 hx2
              clear hx1 hx2
              obtain ⟨g9, hg9, hc9⟩ := hc9 (by omega)
              rw [hg9] at hv9
              obtain ⟨k3, _, k5⟩ := hc9 i hit3
              have heq : (back[i].kind, back[i].text) = (ts[i].kind, ts[i].text) := by
                have h1 := congrArg (fun z => z[i]?) HB2.out
                simp only [List.getElem?_map, List.getElem?_eq_getElem hit3, List.getElem?_eq_getElem hit2, Option.map_some] at h1
                exact Option.some.inj h1
              injection heq with heq1 heq2
              rw [heq1] at k3
              rw [heq2] at k5
              clear hc8 hc9 hx9 heq1 heq2
              subst hv8
              subst hv9
              generalize ts[i].text = tx at *
              generalize ts[i].kind = tk at *
              have htt : ((tk : Int) != (tk : Int)) = false := by simp
              have htx : (tx == tx) = true := by simp
              go_wp2_with fail
              go_quiet (fail)
              go_wp2_with fail
              go_roundw
              case rel => exact ⟨i + 1, by omega, by go_num, HX9.out.drewN _⟩
              case measure => simp [intOf]; omega
            · obtain rfl : i = j := by omega
              clear hx9
              go_wp2_with fail
              go_ret
              exact ⟨rfl, HX7.out.trans HX9.out⟩
        · have hse : ((se : Int) != 0) = true := by rw [bne_iff_ne]; omega
          clear HLG HSJ hlong he0 HSE
          generalize (se : Int) = sz at *
          go_wp2_with fail
          refine HO2.out.mono ?_
          rintro e w7 ⟨v7, rfl, hr7, hx7⟩
          obtain ⟨A7, c7, rfl⟩ := ownsRow_shape hr7
          have HX7 := Lib.hid (HX6.out.trans hx7)
          clear hr7 hx7
          go_wp2_with fail
          go_ret
          exact ⟨rfl, HX7.out⟩
end Big
end Go.Proofs.YtelgknpdiaafaaaGreatDoor
/- The frame round a law's walk: the arguments opened; behind the call they read as they did. -/
namespace Go.Proofs.YtelgknpdiaafaaaGreatDoor
open Go.ChangeShapes Go.WideShapes Go.ChangeAt Go.RowKit

section
variable {H : Type} {enc : TypeId × Value → H} {P : Program}
theorem trodAll_stays (hl : laidOutB P = true) {W W' : World} (hb : Big.Ext W W') : ∀ (ts : List TypeId) (vs : List Value) (ds : List (DataW H)) (ps : List MemPlace),
    (∀ t ∈ ts, P.readableRec t = true ∧ t < P.types.size) → DataW.TrodAll enc P W 0 (fun _ => true) true ts vs ds ps → (∀ x ∈ ps, x.block < W.heap.size) →
    DataW.TrodAll enc P W' 0 (fun b => decide (b < W.heap.size)) true ts vs ds ps
  | [], vs, ds, ps, _, h, _ => by
    obtain ⟨rfl, rfl, rfl⟩ := trodAll_nil h
    exact trodAll_mk0
  | t :: ts, vs, ds, ps, ht, h, hlt => by
    obtain ⟨v, vs', d, ds', p, q, rfl, rfl, rfl, h1, h2⟩ := trodAll_cons h
    exact trodAll_cons_mk (Below.trod hl (ht t (by simp)).1 (ht t (by simp)).2 h1 hb (fun x hx => hlt x (List.mem_append_left _ hx)))
      (trodAll_stays hl hb ts vs' ds' q (fun t' h' => ht t' (by simp [h'])) h2 (fun x hx => hlt x (List.mem_append_right _ hx)))

/-- What the row asks of a law that returned true and left what was there. -/
theorem post_true {f : Func} {s : ChangeSpec} {W W' : World} {args : Array Value} {ds gs : List (DataW H)} {before : List MemPlace} {tb : TypeId} (hl : laidOutB P = true)
    (hts : (f.params.toList.all fun t => P.readableRec t && decide (t < P.types.size)) = true) (hv : s.vars = []) (hr : f.resultTypes = #[tb]) (htb : P.underlying tb = some .bool)
    (hW : DataW.Whole enc P f.params.toList s.vars false W args.toList ds gs before) (hfn : s.fn H ds = { results := [.lit (.bool true)], args := ds }) (hb : Big.Ext W W') :
    s.post enc P f false true false false W args (.bool true) W' := by
  have hlt := hW.lt
  have hW' := hW
  obtain ⟨p, q, hA, hV, rfl, hfz, hnd⟩ := hW
  rw [hv] at hV
  obtain ⟨rfl, rfl⟩ := trodVars_none hV
  have hfn' : s.fn H (ds ++ []) = { results := [.lit (.bool true)], args := ds } := by rw [List.append_nil]; exact hfn
  refine ⟨ds, [], p ++ [], [], p, [], hW', ?_, ?_, ?_, hb.frame _, fun h => by cases h⟩
  · rw [hfn', hr]
    exact trodAll_mk1 (shut_bool htb _)
  · rw [hfn']
    exact trodAll_stays hl hb _ _ _ _ (fun t ht => by
      have := List.all_eq_true.1 hts t ht
      simpa using this) hA (fun x hx => hlt x (by simpa using hx))
  · rw [hfn', hv]
    rfl
end

/-- A law under its row's conditions, with the form of the world at its beginning. -/
theorem handed_and_shaped {H : Type} {enc : TypeId × Value → H} {a : Assume} {C : Checked} {os : Os} {f : FuncId} {fn : Func} {s : ChangeSpec} {conds : List PathCond} {apart fresh handsOn again : Bool} {X : World → Array Value → Prop}
    (hX : ∀ (w w' : World) (args : Array Value), w.heap = w'.heap → X w args → X w' args)
    (own : ownKnob C.prog.godebug = none) (started : os.Started) (noInit : C.prog.inits.idxOf? f = none) (hfn : C.prog.funcs[f]? = some fn)
    (witness : ∃ (w : World) (tape : Tape) (i : Input), w.os = os ∧ (w.forCall tape i).Shaped C.prog ∧ i.vars = [] ∧ Input.okWide C.prog (w.forCall tape i) .any w.heap.size f i ∧
      ((s.pre enc C.prog fn conds apart (w.forCall tape i).memory i.args ∧ X (w.forCall tape i).memory i.args) ∧ sizedMet enc C.prog fn (OpenSpec.ofChange s) apart (w.forCall tape i).memory i.args) ∧ a.holds C.prog (lone (Frame.enter C.prog f i.args .normal) [] (w.forCall tape i)))
    (contract : ∀ (W : World) (base : Nat) (args : Array Value) (ds gs : List (DataW H)) (before : List MemPlace),
      (∀ (j : Nat) t v, fn.params[j]? = some t → args[j]? = some v → Value.okWide C.prog W .any base t v) →
      DataW.Whole enc C.prog fn.params.toList s.vars apart W args.toList ds gs before →
      (DataW.weightsEach C.prog (fn.params.toList ++ s.plain.varTypes C.prog) (ds ++ gs)).all (· ≤ reachBytes) = true → X W args → W.ShapedOpen C.prog →
      Calls C.prog f args W fun e W' => ∃ v, e = .returned v ∧ s.post enc C.prog fn apart fresh handsOn again W args v W') :
    ReturnsInHanded a C os f .any (fun w args => (s.pre enc C.prog fn conds apart w args ∧ X w args) ∧ sizedMet enc C.prog fn (OpenSpec.ofChange s) apart w args) (s.post enc C.prog fn apart fresh handsOn again) := by
  refine returnsInHanded_of_calls own started noInit witness ?_
  intro w tape i _ hsh _ hok hpre hholds
  obtain ⟨_, _, _, fn', hfn', _, _, _, _, hval⟩ := hok
  have e : fn' = fn := Option.some.inj (hfn'.symm.trans hfn)
  subst e
  obtain ⟨⟨⟨ds, gs, before, hw, hc⟩, hx⟩, hz⟩ := hpre
  have hw' := DataW.Whole.of_heap (w' := w.forCall tape i) (by rfl) hw
  refine (contract (w.forCall tape i) w.heap.size i.args ds gs before hval hw' (hz.weights hw) (hX _ _ _ (by rfl) hx) hsh).mono fun e W' ⟨v, he, hp⟩ => ?_
  subst he
  exact ChangeSpec.post_blind hp

theorem laid_out : laidOutB Tryz.prog = true := by kernel_rfl
theorem own : ownKnob Tryz.prog.godebug = none := by kernel_rfl

section
variable {P : Program} {W : World}
/-- One of several variables that a row lists. -/
theorem laidVars_at : ∀ (i : Nat) (l : List (String × DataW Unit)) (ps : List MemPlace) (n : String) (d : DataW Unit), DataW.LaidVars P W l ps → l[i]? = some (n, d) →
    ∃ g t cs f p, P.globalNamed n = some g ∧ (P.globals[g]?).map (·.type) = some t ∧ W.var? P n = some cs ∧ DataW.trod (fun _ => ()) P W 0 (fun _ => true) false f t cs.toList = some (d, p)
  | i, [], ps, n, d, _, hn => by simp at hn
  | 0, x :: l, ps, n, d, h, hn => by
    simp at hn
    subst hn
    obtain ⟨g, t, cs, f, p, q, h1, h2, h3, h4, _, _⟩ := h
    exact ⟨g, t, cs, f, p, h1, h2, h3, h4⟩
  | i + 1, x :: l, ps, n, d, h, hn => by
    obtain ⟨g, t, cs, f, p, q, _, _, _, _, hs, _⟩ := h
    exact laidVars_at i l q n d hs (by simpa using hn)
theorem laid_at (i : Nat) {l : List (String × DataW Unit)} {n : String} {d : DataW Unit} (h : laidMetH P l W) (hp : (l.all fun x => x.2.handleName?.isNone) = true) (hn : l[i]? = some (n, d)) :
    ∃ g t cs f p, P.globalNamed n = some g ∧ (P.globals[g]?).map (·.type) = some t ∧ W.var? P n = some cs ∧ DataW.trod (fun _ => ()) P W 0 (fun _ => true) false f t cs.toList = some (d, p) := by
  rw [MakeChecks.laidMetH_plain _ _ _ hp] at h
  obtain ⟨ps, hv, _⟩ := h
  exact laidVars_at i l ps n d hv hn
end

section
variable {H : Type} {enc : TypeId × Value → H} {W : World} {fuel : Nat} {v : Value} {y : DataW H × List MemPlace}
theorem cellsOf_u32 : Tryz.prog.cellsOf 72 = 1 := by kernel_rfl
/-- A slice of 32-bit digits that came in. -/
theorem arr_of_trod (h : DataW.trod enc Tryz.prog W 0 (fun _ => true) true fuel 53 [v] = some y) : ∃ xs, Big.Arr W v xs := by
  rcases open_ints Tryz.underlying53 Tryz.underlying72 cellsOf_u32 h with ⟨hv, _⟩ | ⟨a, len, cap, zs, hv, _, hl, hm, hz, _, hc, hw⟩
  · injection hv with hv
    subst hv
    exact ⟨[], Big.Arr.none_ W⟩
  · injection hv with hv
    subst hv
    simp only [if_true] at hz
    refine ⟨(zs.take len).map Int.toNat, ?_⟩
    have hlen : ((zs.take len).map Int.toNat).length = len := by simp; omega
    have hok : Big.Ok ((zs.take len).map Int.toNat) := fun x hx => by
      obtain ⟨n, hn, rfl⟩ := List.mem_map.1 hx
      have := bounds_u32 (hw n (List.mem_of_mem_take hn))
      omega
    have key := Big.Arr.mk (w := W) (A := some a) (c := cap) hok (by rw [hlen]; exact hl) hm (fun hp => by
      rw [hlen] at hp ⊢
      obtain ⟨b, off, rfl, hcell⟩ := ints_at hc (by omega)
      have h0 := hcell 0 (by omega)
      refine ⟨b, off, rfl, World.block_lt_of_cell? W _ h0, fun j hj => ?_⟩
      rw [hcell j (by omega)]
      have hj2 : j < zs.length := by omega
      have hb := bounds_u32 (hw zs[j] (List.getElem_mem hj2))
      have e1 : zs.getD j 0 = zs[j] := by rw [List.getD_eq_getElem?_getD, List.getElem?_eq_getElem hj2]; rfl
      have e2 : ((zs.take len).map Int.toNat).getD j 0 = zs[j].toNat := by
        rw [List.getD_eq_getElem?_getD, List.getElem?_map, List.getElem?_take_of_lt hj, List.getElem?_eq_getElem hj2]; rfl
      rw [e1, e2]
      unfold Big.d32
      rw [Int.toNat_of_nonneg hb.1])
    rw [hlen] at key
    exact key
theorem bool_of_trod (h : DataW.trod enc Tryz.prog W 0 (fun _ => true) true fuel 4 [v] = some y) : ∃ b, v = .bool b := by
  obtain ⟨b, hb, _⟩ := DataW.trod_bool Tryz.underlying4 h
  injection hb with hb
  exact ⟨b, hb⟩
end
section
variable {H : Type} {enc : TypeId × Value → H} {W : World} {v : Value} {d : DataW H} {p : List MemPlace} {r : Reach} {b0 : Nat}
set_option maxRecDepth 100000 in
theorem open_u32s (hv : Value.okWide Tryz.prog W r b0 53 v) (h : DataW.Trod enc Tryz.prog W 0 (fun _ => true) true 53 v d p) : ∃ xs, Big.Arr W v xs := by
  obtain ⟨a, len, cap, rfl⟩ := okWide_slice Tryz.underlying53 hv
  obtain ⟨fuel, hf⟩ := h
  obtain ⟨xs, hxs⟩ := arr_of_trod (by simpa [Value.cells] using hf)
  exact ⟨xs, hxs⟩
end
theorem byte_of_wf {z : Int} (w : (Lit.int .u8 z).wf = true) : ∃ d : UInt8, z = (d.toNat : Int) := by
  have h := bounds_u8 w
  refine ⟨UInt8.ofNat z.toNat, ?_⟩
  have e : (UInt8.ofNat z.toNat).toNat = z.toNat % 2 ^ 8 := UInt8.toNat_ofNat'
  rw [e, Nat.mod_eq_of_lt (by omega)]
  omega
theorem u64_of_wf {z : Int} (w : (Lit.int .u64 z).wf = true) : ∃ n : Nat, n < 18446744073709551616 ∧ z = (n : Int) := by
  have h := bounds_u64 w
  exact ⟨z.toNat, by omega, by omega⟩
theorem str_of_bytes {s : ByteArray} (h : s.size ≤ maxLen) : ∃ l : List UInt8, l.length ≤ maxLen ∧ s = ⟨l.toArray⟩ := by
  refine ⟨s.data.toList, by simpa using h, ?_⟩
  apply ByteArray.ext
  simp
end Go.Proofs.YtelgknpdiaafaaaGreatDoor
/- A list of integers that came in. -/
namespace Go.Proofs.YtelgknpdiaafaaaGreatDoor
open Go.ChangeShapes Go.WideShapes Go.ChangeAt Go.RowKit
theorem cellsOf_i64 : Tryz.prog.cellsOf 3 = 1 := by kernel_rfl
section
variable {H : Type} {enc : TypeId × Value → H} {W : World} {v : Value} {d : DataW H} {p : List MemPlace} {r : Reach} {b0 : Nat}
theorem nums_of_trod {fuel : Nat} {y : DataW H × List MemPlace} (h : DataW.trod enc Tryz.prog W 0 (fun _ => true) true fuel 22 [v] = some y) : ∃ xs, Big.ArrI W v xs := by
  rcases open_ints Tryz.underlying22 Tryz.underlying3 cellsOf_i64 h with ⟨hv, _⟩ | ⟨a, len, cap, zs, hv, _, hl, hm, hz, _, hc, hw⟩
  · injection hv with hv
    subst hv
    exact ⟨[], ⟨(fun x hx => by cases hx), Big.RArr.none_ W⟩⟩
  · injection hv with hv
    subst hv
    simp only [if_true] at hz
    refine ⟨zs.take len, fun x hx => bounds_i64 (hw x (List.mem_of_mem_take hx)), some a, cap, by simp; omega, by simp; omega, hm, fun hp => ?_⟩
    simp only [List.length_map, List.length_take] at hp
    obtain ⟨b, off, rfl, hcell⟩ := ints_at hc (by omega)
    have h0 := hcell 0 (by omega)
    refine ⟨b, off, rfl, World.block_lt_of_cell? W _ h0, fun j u hj => ?_⟩
    rw [List.getElem?_map] at hj
    have hjl : j < len := by
      rcases Nat.lt_or_ge j len with h | h
      · exact h
      · rw [List.getElem?_eq_none (by simp; omega)] at hj; cases hj
    have hj2 : j < zs.length := by omega
    rw [List.getElem?_take_of_lt hjl, List.getElem?_eq_getElem hj2] at hj
    injection hj with hj
    subst hj
    rw [hcell j (by omega)]
    have e1 : zs.getD j 0 = zs[j] := by rw [List.getD_eq_getElem?_getD, List.getElem?_eq_getElem hj2]; rfl
    rw [e1]
    rfl
set_option maxRecDepth 100000 in
theorem open_nums (hv : Value.okWide Tryz.prog W r b0 22 v) (h : DataW.Trod enc Tryz.prog W 0 (fun _ => true) true 22 v d p) : ∃ xs, Big.ArrI W v xs := by
  obtain ⟨a, len, cap, rfl⟩ := okWide_slice Tryz.underlying22 hv
  obtain ⟨fuel, hf⟩ := h
  obtain ⟨xs, hxs⟩ := nums_of_trod (by simpa [Value.cells] using hf)
  exact ⟨xs, hxs⟩
end
end Go.Proofs.YtelgknpdiaafaaaGreatDoor
