import Derived.Test.YtelgknpdiaafaaaGreatDoorM5
import Derived.Test.YtelgknpdiaafaaaGreatDoorM6
import Derived.Test.YtelgknpdiaafaaaGreatDoorM8
import Derived.Deep.RegionLaw
import Derived.Laws.AppendOwn
import Derived.Test.YtelgknpdiaafaaaGreatDoorM4
import Derived.Test.YtelgknpdiaafaaaGreatDoorShelf
import Derived.Shelf.Strings.SlTrimAscii
/- The scanner's while. -/
namespace Go.Proofs.YtelgknpdiaafaaaGreatDoor
namespace Big
open Go.RowKit
theorem byteAt_drop (l : List UInt8) (a i : Nat) : byteAt (l.drop a) i = byteAt l (a + i) := by
  unfold byteAt
  rw [List.getD_eq_getElem?_getD, List.getD_eq_getElem?_getD, List.getElem?_drop]
theorem run_at {p : Nat → Bool} {l : List UInt8} {a i : Nat} (h : i < runLen p (l.drop a)) : a + i < l.length ∧ p (byteAt l (a + i)) = true := by
  obtain ⟨h1, h2⟩ := runLen_in p (l.drop a) i h
  rw [List.length_drop] at h1
  refine ⟨by omega, ?_⟩
  rw [← byteAt_drop, byteAt_eq _ _ (by rw [List.length_drop]; omega)]
  exact h2
theorem run_stop {p : Nat → Bool} {l : List UInt8} {a : Nat} (h : a + runLen p (l.drop a) < l.length) : p (byteAt l (a + runLen p (l.drop a))) = false := by
  have h1 := runLen_end p (l.drop a) (by rw [List.length_drop]; omega)
  rw [← byteAt_drop, byteAt_eq _ _ (by rw [List.length_drop]; omega)]
  exact h1
theorem run_slice (l : List UInt8) (a n : Nat) : (l.take (a + n)).drop a = (l.drop a).take n := by
  rw [List.drop_take, Nat.add_sub_cancel_left]
set_option maxRecDepth 100000 in
theorem while_word (w : World) (gs a : Nat) (l : List UInt8) (tv : Value) (hb : Blk w gs 50 #[str l, .int .i64 (a : Int), tv]) (ha : a ≤ l.length) (hl : l.length ≤ 1073741824) :
    Calls Tryz.prog 37 #[.pointer (some ⟨gs, 0, none⟩), .func (.func 38) #[] #[]] w fun e w' => e = .returned (str ((l.drop a).take (runLen wordN (l.drop a)))) ∧ Dr w w' := by
  obtain ⟨k0, k1, k2, f0, f1, f2, hgz⟩ := hb.three
  have hrl := runLen_le wordN (l.drop a)
  rw [List.length_drop] at hrl
  have HIN := Lib.hid (fun i h => run_at (p := wordN) (l := l) (a := a) (i := i) h)
  have HST := Lib.hid (run_stop (p := wordN) (l := l) (a := a))
  have HSL := Lib.hid (run_slice l a (runLen wordN (l.drop a)))
  generalize runLen wordN (l.drop a) = n at *
  clear hb
  go_enter Tryz.func37, Tryz.ntmps37
  go_wp2_with fail
  go_loop [5] (fun s5 => ∃ i : Nat, i ≤ n ∧ s5 = .int .i64 ((a + i : Nat) : Int)) (fun s5 => a + n - (intOf s5).toNat)
  case atStart => exact ⟨0, Nat.zero_le _, rfl⟩
  case round =>
    obtain ⟨i, hi, rfl⟩ := hrel
    by_cases hlt : i < n
    · obtain ⟨h1, h2⟩ := HIN.out i hlt
      have hbl := byteAt_lt l (a + i)
      have HC := Lib.hid (fun W => inWord_any W (byteAt l (a + i)) hbl)
      rw [h2] at HC
      have h1' : (a : Int) + (i : Int) < (l.length : Int) := by omega
      clear h2
      go_wp2_with fail
      refine (HC.out _).mono ?_
      rintro e w2 ⟨rfl, rfl⟩
      go_wp2_with fail
      go_round
      case rel => exact ⟨i + 1, by omega, by go_num⟩
      case measure => simp [intOf]; omega
    · obtain rfl : i = n := by omega
      rcases Nat.lt_or_ge (a + i) l.length with h1 | h1
      · have h2 := HST.out h1
        have hbl := byteAt_lt l (a + i)
        have HC := Lib.hid (fun W => inWord_any W (byteAt l (a + i)) hbl)
        rw [h2] at HC
        have h1' : (a : Int) + (i : Int) < (l.length : Int) := by omega
        clear h2
        go_wp2_with fail
        refine (HC.out _).mono ?_
        rintro e w2 ⟨rfl, rfl⟩
        go_wp2_with fail
        go_quiet (fail)
        go_wp2_with fail
        go_ret
        exact ⟨by rw [← HSL.out]; rfl, (Dr.refl _).drewN _⟩
      · have h1' : ¬ (a : Int) + (i : Int) < (l.length : Int) := by omega
        go_wp2_with fail
        go_quiet (fail)
        go_wp2_with fail
        go_ret
        exact ⟨by rw [← HSL.out]; rfl, (Dr.refl _).drewN _⟩
set_option maxRecDepth 100000 in
theorem while_num (w : World) (gs a : Nat) (l : List UInt8) (tv : Value) (hb : Blk w gs 50 #[str l, .int .i64 (a : Int), tv]) (ha : a ≤ l.length) (hl : l.length ≤ 1073741824) :
    Calls Tryz.prog 37 #[.pointer (some ⟨gs, 0, none⟩), .func (.func 40) #[] #[]] w fun e w' => e = .returned (str ((l.drop a).take (runLen numN (l.drop a)))) ∧ Dr w w' := by
  obtain ⟨k0, k1, k2, f0, f1, f2, hgz⟩ := hb.three
  have hrl := runLen_le numN (l.drop a)
  rw [List.length_drop] at hrl
  have HIN := Lib.hid (fun i h => run_at (p := numN) (l := l) (a := a) (i := i) h)
  have HST := Lib.hid (run_stop (p := numN) (l := l) (a := a))
  have HSL := Lib.hid (run_slice l a (runLen numN (l.drop a)))
  generalize runLen numN (l.drop a) = n at *
  clear hb
  go_enter Tryz.func37, Tryz.ntmps37
  go_wp2_with fail
  go_loop [5] (fun s5 => ∃ i : Nat, i ≤ n ∧ s5 = .int .i64 ((a + i : Nat) : Int)) (fun s5 => a + n - (intOf s5).toNat)
  case atStart => exact ⟨0, Nat.zero_le _, rfl⟩
  case round =>
    obtain ⟨i, hi, rfl⟩ := hrel
    by_cases hlt : i < n
    · obtain ⟨h1, h2⟩ := HIN.out i hlt
      have hbl := byteAt_lt l (a + i)
      have HC := Lib.hid (fun W => inNumber_any W (byteAt l (a + i)) hbl)
      rw [h2] at HC
      have h1' : (a : Int) + (i : Int) < (l.length : Int) := by omega
      clear h2
      go_wp2_with fail
      refine (HC.out _).mono ?_
      rintro e w2 ⟨rfl, rfl⟩
      go_wp2_with fail
      go_round
      case rel => exact ⟨i + 1, by omega, by go_num⟩
      case measure => simp [intOf]; omega
    · obtain rfl : i = n := by omega
      rcases Nat.lt_or_ge (a + i) l.length with h1 | h1
      · have h2 := HST.out h1
        have hbl := byteAt_lt l (a + i)
        have HC := Lib.hid (fun W => inNumber_any W (byteAt l (a + i)) hbl)
        rw [h2] at HC
        have h1' : (a : Int) + (i : Int) < (l.length : Int) := by omega
        clear h2
        go_wp2_with fail
        refine (HC.out _).mono ?_
        rintro e w2 ⟨rfl, rfl⟩
        go_wp2_with fail
        go_quiet (fail)
        go_wp2_with fail
        go_ret
        exact ⟨by rw [← HSL.out]; rfl, (Dr.refl _).drewN _⟩
      · have h1' : ¬ (a : Int) + (i : Int) < (l.length : Int) := by omega
        go_wp2_with fail
        go_quiet (fail)
        go_wp2_with fail
        go_ret
        exact ⟨by rw [← HSL.out]; rfl, (Dr.refl _).drewN _⟩
end Big
end Go.Proofs.YtelgknpdiaafaaaGreatDoor
/- lexer.Word. -/
namespace Go.Proofs.YtelgknpdiaafaaaGreatDoor
namespace Big
open Go.RowKit
theorem wordB_eq (l : List UInt8) : wordB l = (!(l == []) && decide (l.length ≤ 24) && letN (byteAt l 0) && l.all (fun c => wordN c.toNat)) := rfl
theorem all_word_false {l : List UInt8} {i : Nat} (h : i < l.length) (hf : wordN (byteAt l i) = false) : l.all (fun c => wordN c.toNat) = false := by
  rw [List.all_eq_false]
  exact ⟨l[i], List.getElem_mem h, by rw [← byteAt_eq l i h, hf]; simp⟩
theorem all_word_true {l : List UInt8} (h : ∀ i, i < l.length → wordN (byteAt l i) = true) : l.all (fun c => wordN c.toNat) = true := by
  rw [List.all_eq_true]
  intro c hc
  obtain ⟨i, hi, rfl⟩ := List.getElem_of_mem hc
  rw [← byteAt_eq l i hi]
  exact h i hi
set_option maxRecDepth 100000 in
theorem word_any (w : World) (l : List UInt8) (hl : l.length ≤ 1073741824) : Calls Tryz.prog 39 #[str l] w fun e w' => e = .returned (.bool (wordB l)) ∧ w = w' := by
  have H := Lib.hid (wordB_eq l)
  rcases Nat.eq_zero_or_pos l.length with h0 | h0
  · obtain rfl : l = [] := List.eq_nil_of_length_eq_zero h0
    have HR : Hid (wordB [] = false) := Lib.hid rfl
    have he : (([] : List UInt8) == []) = true := rfl
    clear h0 H
    go_enter Tryz.func39, Tryz.ntmps39
    go_wp2_with fail
    go_ret
    rw [HR.out]
    exact ⟨rfl, rfl⟩
  · have he : (l == []) = false := by cases l <;> simp_all
    have h0i : (0 : Int) < (l.length : Int) := by omega
    rcases Nat.lt_or_ge 24 l.length with h24 | h24
    · have HR : Hid (wordB l = false) := Lib.hid (by rw [H.out, decide_eq_false (by omega)]; simp)
      have hd : (24 : Int) < (l.length : Int) := by omega
      clear H h0 h24
      go_enter Tryz.func39, Tryz.ntmps39
      go_wp2_with fail
      go_ret
      rw [HR.out]
      exact ⟨rfl, rfl⟩
    · have hd : ¬ (24 : Int) < (l.length : Int) := by omega
      have hd2 : decide ((24 : Int) < (l.length : Int)) = false := by simp; omega
      have hbl := byteAt_lt l 0
      have HLT := Lib.hid (fun W => isLetter_any W (byteAt l 0) hbl)
      cases hlet : letN (byteAt l 0)
      · have HR : Hid (wordB l = false) := Lib.hid (by rw [H.out, hlet]; simp)
        rw [hlet] at HLT
        clear H h0 h24 hlet
        go_enter Tryz.func39, Tryz.ntmps39
        go_wp2_with fail
        refine (HLT.out _).mono ?_
        rintro e w1 ⟨rfl, rfl⟩
        go_wp2_with fail
        go_ret
        rw [HR.out]
        exact ⟨rfl, rfl⟩
      · have HR : Hid (wordB l = l.all (fun c => wordN c.toNat)) := Lib.hid (by rw [H.out, hlet, he, decide_eq_true h24]; simp)
        rw [hlet] at HLT
        clear H hlet
        go_enter Tryz.func39, Tryz.ntmps39
        go_wp2_with fail
        refine (HLT.out _).mono ?_
        rintro e w1 ⟨rfl, rfl⟩
        go_wp2_with fail
        go_loop [19] (fun s => ∃ i : Nat, i ≤ l.length ∧ s = .int .i64 (i : Int) ∧ Hid (∀ j, j < i → wordN (byteAt l j) = true)) (fun s => l.length - (intOf s).toNat)
        case atStart => exact ⟨0, Nat.zero_le _, rfl, Lib.hid (fun j hj => by omega)⟩
        case round =>
          obtain ⟨i, hi, rfl, HA⟩ := hrel
          by_cases hlt : i < l.length
          · have hbi := byteAt_lt l i
            have HC := Lib.hid (fun W => inWord_any W (byteAt l i) hbi)
            cases hw : wordN (byteAt l i)
            · have HF : Hid (wordB l = false) := Lib.hid (by rw [HR.out]; exact all_word_false hlt hw)
              rw [hw] at HC
              clear hw
              go_wp2_with fail
              refine (HC.out _).mono ?_
              rintro e w1 ⟨rfl, rfl⟩
              go_wp2_with fail
              go_ret
              rw [HF.out]
              exact ⟨rfl, rfl⟩
            · have HN : Hid (∀ j, j < i + 1 → wordN (byteAt l j) = true) := Lib.hid (fun j hj => by
                rcases Nat.lt_or_ge j i with h1 | h1
                · exact HA.out j h1
                · obtain rfl : j = i := by omega
                  exact hw)
              rw [hw] at HC
              clear hw
              go_wp2_with fail
              refine (HC.out _).mono ?_
              rintro e w1 ⟨rfl, rfl⟩
              go_wp2_with fail
              go_round
              case rel => exact ⟨i + 1, by omega, by go_num, HN⟩
              case measure => simp [intOf]; omega
          · obtain rfl : i = l.length := by omega
            have HF : Hid (wordB l = true) := Lib.hid (by rw [HR.out]; exact all_word_true HA.out)
            go_wp2_with fail
            go_ret
            rw [HF.out]
            exact ⟨rfl, rfl⟩
end Big
end Go.Proofs.YtelgknpdiaafaaaGreatDoor
/- The scanner's add. -/
namespace Go.Proofs.YtelgknpdiaafaaaGreatDoor
namespace Big
open Go.RowKit
def tokC (t : Tok) : List Value := [.int .i64 (t.kind : Int), .int .i64 (t.at_ : Int), str t.text]
def toksC (ts : List Tok) : List Value := ts.flatMap tokC
theorem toksC_length (ts : List Tok) : (toksC ts).length = ts.length * 3 := by
  induction ts with
  | nil => rfl
  | cons t ts ih =>
    unfold toksC at *
    rw [List.flatMap_cons, List.length_append, ih, List.length_cons]
    simp [tokC]
    omega
theorem toksC_snoc (ts : List Tok) (t : Tok) : toksC (ts ++ [t]) = toksC ts ++ tokC t := by simp [toksC]
/-- What the scanner holds: block gs. -/
structure ScanAt (gs : Nat) (w : World) (l : List UInt8) (a : Nat) (ts : List Tok) (tv : Value) : Prop where
  blk : Blk w gs 50 #[str l, .int .i64 (a : Int), tv]
  row : w.ownsRow (gs + 1) 40 3 tv ts.length (toksC ts)
theorem step_append_own {P : Program} {ops : Array Oper} {o : Oper} {a : Act} {w : World} {K : Act → World → Prop} {Q : Exit → Act → World → Prop} {E : Prop}
    (hg : o.guard = none) (s x : Operand) (t : TypeId) (hop : o.op = Op.call { callee := Callee.builtin Builtin.append, args := #[s, x], argTypes := #[t, t] })
    (base : Nat) (e : TypeId) (i : TypeInfo) (z : Value) (size bytes : Nat) (h1 : P.underlying t = some (.slice e)) (h2 : P.info? e = some i) (h3 : i.zero = some z) (h4 : i.size = size) (h5 : i.bytes = bytes) (h6 : z.cells.size = size) (h7 : 0 < size)
    (v : Value) (n : Nat) (xs : List Value) (hs : a.eval s = v) (hown : w.ownsRow base e size v n xs)
    (ad : Addr) (m c : Nat) (news : List Value) (hx : a.eval x = .slice (some ad) m c) (hn : news.length = m * size) (hc : ∀ j u, news[j]? = some u → w.cell? (ad.add j) = some u) (h1c : ∀ u ∈ news, u.oneCell' = true)
    (b1 : n + m ≤ maxLen) (b2 : (n + m) * bytes ≤ 140737488355328) (b3 : base ≤ w.heap.size)
    (hK : ∀ v' w', w'.ownsRow base e size v' (n + m) (xs ++ news) → w.grownBy w' v.ownBlock → K (a.put o.dst v') w') :
    if Region.wanted o (yielded ops a.tmps) = true then Oper.wp P o a w K Q else E := by
  have hw : Region.wanted o (yielded ops a.tmps) = true := by simp [Region.wanted, hg]
  rw [if_pos hw]
  obtain ⟨v', w', hrun, r1, r2, _⟩ := run_append_own (P := P) w base t o.type e i z size bytes h1 h2 h3 h4 h5 h6 h7 v n xs hown ad m c news hn hc h1c b1 b2 b3
  unfold Oper.wp
  simp [execOp, hop, resolve, invoke, builtin, hs, hx, hrun, Result.andThen]
  exact hK v' w' r1 r2
theorem info_tok : (Tryz.prog.info? 40).map (fun i => (i.zero, i.size, i.bytes)) = some (some (.agg #[.int .i64 0, .int .i64 0, .string ⟨#[]⟩]), 3, 32) := by kernel_rfl
theorem ownsRow_below {w w' : World} {base : Nat} {e : TypeId} {size n : Nat} {v : Value} {xs : List Value} (h : w.ownsRow base e size v n xs) (hb : ∀ g, base ≤ g → g < w.heap.size → w'.heap[g]? = w.heap[g]?) : w'.ownsRow base e size v n xs := by
  obtain ⟨h1, h2⟩ := h
  refine ⟨h1, ?_⟩
  rcases h2 with h2 | ⟨g, cap, cur, rfl, hg, hh, r1, r2, r3, r4⟩
  · exact .inl h2
  · refine .inr ⟨g, cap, cur, rfl, hg, ?_, r1, r2, r3, r4⟩
    have hlt : g < w.heap.size := by
      rcases Nat.lt_or_ge g w.heap.size with h | h
      · exact h
      · rw [Array.getElem?_eq_none h] at hh; cases hh
    rw [hb g hg hlt, hh]
theorem ownsRow_block {w : World} {base : Nat} {e : TypeId} {size n : Nat} {v : Value} {xs : List Value} (h : w.ownsRow base e size v n xs) : ∀ k, v.ownBlock = some k → base ≤ k := by
  obtain ⟨h1, h2⟩ := h
  rcases h2 with ⟨rfl, _⟩ | ⟨g, cap, cur, rfl, hg, _⟩
  · intro k hk; simp [Value.ownBlock] at hk
  · intro k hk
    simp only [Value.ownBlock, Option.some.injEq] at hk
    omega
theorem ownsRow_shape {w : World} {base : Nat} {e : TypeId} {size n : Nat} {v : Value} {xs : List Value} (h : w.ownsRow base e size v n xs) : ∃ A c, v = .slice A n c := by
  obtain ⟨h1, h2⟩ := h
  rcases h2 with ⟨rfl, rfl⟩ | ⟨g, cap, cur, rfl, _⟩
  · exact ⟨_, _, rfl⟩
  · exact ⟨_, _, rfl⟩

set_option maxHeartbeats 1000000 in
set_option maxRecDepth 100000 in
theorem add_tok (gs : Nat) (w : World) (l t : List UInt8) (a kind : Nat) (ts : List Tok) (tv : Value) (h : ScanAt gs w l a ts tv) (hn : ts.length ≤ 1000000) (ha : a ≤ 1000000) (ht : t.length ≤ 1000000) :
    Calls Tryz.prog 36 #[.pointer (some ⟨gs, 0, none⟩), .int .i64 (kind : Int), str t] w fun e w' => ∃ tv', e = .returned (.tuple #[]) ∧ ScanAt gs w' l (a + t.length) (ts ++ [⟨kind, a, t⟩]) tv' ∧ Below gs w w' := by
  obtain ⟨k0, k1, k2, f0, f1, f2, hgz⟩ := h.blk.three
  have HR := Lib.hid h.row
  have HB := Lib.hid h.blk
  obtain ⟨A, c, rfl⟩ := ownsRow_shape h.row
  obtain ⟨i0, hi, hz0, hz1, hz2⟩ := info_parts info_tok
  clear h
  obtain ⟨s, hs⟩ : ∃ s : ByteArray, s = ⟨t.toArray⟩ := ⟨_, rfl⟩
  have hsz : s.size = t.length := by rw [hs]; exact size_str t
  have HTC : Hid (tokC ⟨kind, a, t⟩ = [.int .i64 (kind : Int), .int .i64 (a : Int), .string s]) := Lib.hid (by rw [hs]; rfl)
  have hst : str t = .string s := by rw [hs]; rfl
  rw [hst]
  clear hst hs
  have hne : ∀ k, (Value.slice A ts.length c).ownBlock = some k → gs ≠ k := fun k hk => by have := ownsRow_block HR.out k hk; omega
  have HMID : Hid (∀ w' : World, (w.alloc (.cells #[.int .i64 (kind : Int), .int .i64 (a : Int), .string s] 40)).drew.grownBy w' (Value.slice A ts.length c).ownBlock → Blk w' gs 50 #[str l, .int .i64 (a : Int), .slice A ts.length c] ∧ Below gs w w') := Lib.hid (fun w' hgr => by
    refine ⟨?_, ?_⟩
    · have h1 := hgr.block gs (show gs < (w.alloc (.cells #[.int .i64 (kind : Int), .int .i64 (a : Int), .string s] 40)).drew.heap.size by simp; omega) (fun e => hne gs e.symm rfl)
      exact h1.trans ((HB.out.alloc (.cells #[.int .i64 (kind : Int), .int .i64 (a : Int), .string s] 40)).drew)
    · exact (((Below.refl gs w).alloc (Nat.le_of_lt hgz) _).drew).grown hgr (by simp; omega) (fun k hk => by have := ownsRow_block HR.out k hk; omega))
  have HC0 : Hid (∀ (j : Nat) (u : Value), [Value.int .i64 (kind : Int), Value.int .i64 (a : Int), Value.string s][j]? = some u → (w.alloc (.cells #[.int .i64 (kind : Int), .int .i64 (a : Int), .string s] 40)).drew.cell? ((⟨w.heap.size, 0, none⟩ : Addr).add j) = some u) := Lib.hid (fun j u hj => by
    have h1 := (Blk.new w 40 #[.int .i64 (kind : Int), .int .i64 (a : Int), .string s]).drew.cell j
    have h2 : (⟨w.heap.size, 0, none⟩ : Addr).add j = ⟨w.heap.size, j, none⟩ := by
      unfold Addr.add
      split
      · rename_i h; subst h; rfl
      · simp
    rw [h2, h1, ← hj]
    simp)
  have HRO : Hid ((w.alloc (.cells #[.int .i64 (kind : Int), .int .i64 (a : Int), .string s] 40)).drew.ownsRow (gs + 1) 40 3 (.slice A ts.length c) ts.length (toksC ts)) := Lib.hid (ownsRow_below HR.out (fun g _ hg => Below.heap_alloc w _ g hg))
  have hb1 : ts.length + 1 ≤ maxLen := by unfold maxLen; omega
  have hb2 : (ts.length + 1) * 32 ≤ 140737488355328 := by omega
  have hb3 : gs + 1 ≤ (w.alloc (.cells #[.int .i64 (kind : Int), .int .i64 (a : Int), .string s] 40)).drew.heap.size := by simp; omega
  have HB1 := Lib.hid hb1
  have HB2 := Lib.hid hb2
  have HB3 := Lib.hid hb3
  clear hne hb1 hb2 hb3
  go_enter Tryz.func36, Tryz.ntmps36
  go_wp2_with fail
  go_region_law (refine step_append_own rfl (.tmp 10) (.tmp 18) 33 rfl (gs + 1) 40 i0 _ 3 32 Tryz.underlying33 hi hz0 hz1 hz2 rfl (by decide) _ ts.length (toksC ts) rfl HRO.out ⟨w.heap.size, 0, none⟩ 1 1 [.int .i64 (kind : Int), .int .i64 (a : Int), .string s] rfl rfl HC0.out (by simp [Value.oneCell']) HB1.out HB2.out HB3.out ?_; intro v' w' hown hgr; obtain ⟨A', c', rfl⟩ := ownsRow_shape hown; have HOW := Lib.hid hown; have HM := Lib.hid (HMID.out w' hgr); clear hown hgr; obtain ⟨m0, m1, m2, g0, g1, g2, hgz2⟩ := HM.out.1.three)
  all_goals
    have hf1 := (HM.out.1.set_ 2 (.slice A' (ts.length + 1) c')).set_ 1 (.int .i64 ((a : Int) + (t.length : Int)))
    have HF : Hid (ScanAt gs ((w'.setCell ⟨gs, 2, none⟩ (.slice A' (ts.length + 1) c')).setCell ⟨gs, 1, none⟩ (.int .i64 ((a : Int) + (t.length : Int)))) l (a + t.length) (ts ++ [⟨kind, a, t⟩]) (.slice A' (ts.length + 1) c')) := Lib.hid ⟨by
        rw [Int.natCast_add]
        exact hf1, by
        have h3 := HOW.out
        rw [← HTC.out, ← toksC_snoc] at h3
        rw [List.length_append, List.length_singleton]
        refine ownsRow_below h3 (fun g hg _ => ?_)
        rw [Below.heap_setCell _ _ _ g (by show g ≠ gs; omega), Below.heap_setCell _ _ _ g (by show g ≠ gs; omega)]⟩
    have HBE := Lib.hid ((HM.out.2.setCell (p := ⟨gs, 2, none⟩) (Nat.le_refl _) (.slice A' (ts.length + 1) c')).setCell (p := ⟨gs, 1, none⟩) (Nat.le_refl _) (.int .i64 ((a : Int) + (t.length : Int))))
    clear hf1
    go_wp2_with fail
    go_end0
    exact ⟨_, rfl, HF.out, HBE.out⟩
end Big
end Go.Proofs.YtelgknpdiaafaaaGreatDoor
/- strings.Cut, TrimLeft, Trim at the texts of decimals. -/
namespace Go.Proofs.YtelgknpdiaafaaaGreatDoor
namespace Big
open Go.RowKit
/-- The library's variable that strings.Index reads. -/
def MaxV (w : World) : Prop := ∃ m : Int, w.cell? ⟨0, 0, none⟩ = some (.int .i64 m)
theorem MaxV.ext {w w' : World} (h : MaxV w) (hx : Ext w w') : MaxV w' := by
  obtain ⟨m, h⟩ := h
  exact ⟨m, hx.keep h⟩
theorem maxV_of_shaped {w : World} (h : w.ShapedOpen Tryz.prog) : MaxV w := Tryz.laysM145.s1_3 w h
theorem cut_any (w : World) (l : List UInt8) (hl : l.length ≤ 1073741824) (hm : MaxV w) :
    Calls Tryz.prog 52 #[str l, .string ⟨#[46]⟩] w fun e w' => e = .returned (.tuple #[str (whole l), str (part l), .bool (hasDot l)]) ∧ Ext w w' := by
  obtain ⟨m, hm⟩ := hm
  have h := Any.strings_Cut { Tryz.laysM145 with } ⟨l.toArray⟩ ⟨#[46]⟩ m w (by rw [size_str]; omega) hm
  have e := cut_dot l
  have e1 : Lib.cut (⟨l.toArray⟩ : ByteArray).data.toList (⟨#[46]⟩ : ByteArray).data.toList = (whole l, part l, hasDot l) := e
  rw [e1] at h
  refine h.mono ?_
  rintro e w' ⟨rfl, n, rfl⟩
  exact ⟨rfl, (Ext.refl w).drewN n⟩
theorem trimZ_any (w : World) (l : List UInt8) :
    Calls Tryz.prog 53 #[str l, .string ⟨#[48]⟩] w fun e w' => e = .returned (str (l.dropWhile (· == 48))) ∧ w = w' := by
  refine (Tryz.strings_TrimLeft_one ⟨l.toArray⟩ 48 (by decide) w).mono ?_
  rintro e w' ⟨rfl, rfl⟩
  exact ⟨rfl, rfl⟩
theorem trimD_any (w : World) (l : List UInt8) (hl : l.length ≤ 1073741824) (h : l.all isDig = true) :
    Calls Tryz.prog 55 #[str l, .string ⟨#[48, 49, 50, 51, 52, 53, 54, 55, 56, 57]⟩] w fun e w' => e = .returned (str []) ∧ Ext w w' := by
  refine (Any.strings_Trim_laid Tryz.lays160 (by kernel_rfl) ⟨l.toArray⟩ ⟨#[48, 49, 50, 51, 52, 53, 54, 55, 56, 57]⟩ w (by rw [size_str]; omega) (by decide) (ascii_of_all (by decide))).mono ?_
  rintro e w' ⟨rfl, hb⟩
  have e1 : Lib.trimS (⟨l.toArray⟩ : ByteArray).data.toList (⟨#[48, 49, 50, 51, 52, 53, 54, 55, 56, 57]⟩ : ByteArray).data.toList = [] := trimS_all l h
  rw [e1]
  exact ⟨rfl, hb⟩
end Big
end Go.Proofs.YtelgknpdiaafaaaGreatDoor
