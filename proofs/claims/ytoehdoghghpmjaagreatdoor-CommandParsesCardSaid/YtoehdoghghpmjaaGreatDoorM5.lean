import Derived.Test.YtoehdoghghpmjaaGreatDoorM4
import Derived.Lib.Strings
import Derived.WalkSpells
import Derived.Laws.Entries
import Derived.Test.YtoehdoghghpmjaaGreatDoorChecked
import Derived.Lib.Split
import Derived.Test.YtoehdoghghpmjaaGreatDoorM1
import Derived.Lib.IndexMore
import Derived.Lib.TrimByte
import Derived.Lib.SlTrimSet
namespace Go.Proofs.YtoehdoghghpmjaaGreatDoor
namespace Big
open Go.RowKit
theorem str_append (a b : List UInt8) : (⟨a.toArray⟩ : ByteArray) ++ ⟨b.toArray⟩ = ⟨(a ++ b).toArray⟩ := by
  apply ByteArray.ext
  simp
theorem run_add_str (a b : List UInt8) (h : a.length + b.length ≤ 2147483648) (W : World) : (binOp .add 9 (str a) (str b)).run Tryz.prog W = .ok (str (a ++ b)) W := by
  unfold str
  simp [go_sem, str_append]
  omega
theorem digit_ext (r : Nat) (h : r < 10) : (⟨#[48, 49, 50, 51, 52, 53, 54, 55, 56, 57]⟩ : ByteArray).extract r (r + 1) = ⟨[UInt8.ofNat (48 + r)].toArray⟩ := by
  have : r = 0 ∨ r = 1 ∨ r = 2 ∨ r = 3 ∨ r = 4 ∨ r = 5 ∨ r = 6 ∨ r = 7 ∨ r = 8 ∨ r = 9 := by omega
  rcases this with rfl | rfl | rfl | rfl | rfl | rfl | rfl | rfl | rfl | rfl <;> rfl
theorem run_add_digit (r : Nat) (h : r < 10) (t : List UInt8) (ht : t.length ≤ 1073741824) (W : World) :
    (binOp .add 9 (.string ((⟨#[48, 49, 50, 51, 52, 53, 54, 55, 56, 57]⟩ : ByteArray).extract r (r + 1))) (str t)).run Tryz.prog W = .ok (str (UInt8.ofNat (48 + r) :: t)) W := by
  rw [digit_ext r h]
  exact run_add_str [UInt8.ofNat (48 + r)] t (by simp; omega) W
theorem run_index_str (l : List UInt8) (k : Nat) (h : k < l.length) (W : World) :
    (Instr.index 9 (.string ⟨l.toArray⟩) (.int .i64 (k : Int))).run Tryz.prog W = .ok (d8 l[k]) W := by
  have h1 := run_index_string (P := Tryz.prog) W 9 ⟨l.toArray⟩ .i64 (k : Int) Tryz.underlying9
  have hs : (⟨l.toArray⟩ : ByteArray).size = l.length := by simp [ByteArray.size]
  rw [h1, dif_pos ⟨by omega, by rw [hs]; omega⟩]
  rfl
end Big
end Go.Proofs.YtoehdoghghpmjaaGreatDoor
/- Rules of the walk for texts: 'str l' is taken as it stands, by the list of its bytes. -/
namespace Go.Proofs.YtoehdoghghpmjaaGreatDoor
namespace Big
open Go.RowKit

/-- The byte at a place of a text. -/
def byteAt (l : List UInt8) (i : Nat) : Nat := (l.getD i 0).toNat
theorem byteAt_lt (l : List UInt8) (i : Nat) : byteAt l i < 256 := UInt8.toNat_lt _
theorem byteAt_eq (l : List UInt8) (i : Nat) (h : i < l.length) : byteAt l i = l[i].toNat := by
  unfold byteAt; rw [List.getD_eq_getElem?_getD, List.getElem?_eq_getElem h]; rfl
theorem size_str (l : List UInt8) : (⟨l.toArray⟩ : ByteArray).size = l.length := by simp [ByteArray.size]
@[go_sem] theorem run_len_str (l : List UInt8) (ty : TypeId) (W : World) : (Builtin.len_ #[9] ty #[str l]).run Tryz.prog W = .ok (.int .i64 (l.length : Int)) W := by
  have := run_len_string (P := Tryz.prog) W 9 ty ⟨l.toArray⟩ Tryz.underlying9
  rw [size_str] at this
  exact this
@[go_sem] theorem run_idx_str (l : List UInt8) (k : IntKind) (i : Int) (W : World) :
    (Instr.index 9 (str l) (.int k i)).run Tryz.prog W = if 0 ≤ i ∧ i < (l.length : Int) then .ok (.int .u8 (byteAt l i.toNat : Int)) W else (boundsPanic k i (l.length : Int) .index).run Tryz.prog W := by
  have h2 := run_index_string (P := Tryz.prog) W 9 ⟨l.toArray⟩ k i Tryz.underlying9
  by_cases h : 0 ≤ i ∧ i < (l.length : Int)
  · rw [dif_pos ⟨h.1, by rw [size_str]; exact h.2⟩] at h2
    have h3 : i.toNat < l.length := by omega
    rw [if_pos h, byteAt_eq l _ h3]
    exact h2
  · rw [dif_neg (by rw [size_str]; exact h), size_str] at h2
    rw [if_neg h]
    exact h2
@[go_sem] theorem eqGuard_str (op : BinOp) (t : TypeId) (x y : Operand) (a : List UInt8) (v : Value) : eqGuard op t x y (str a) v = pure () := by
  unfold str; cases op <;> cases v <;> rfl
@[go_sem] theorem eqGuard_str_const (op : BinOp) (t : TypeId) (x y : Operand) (a : List UInt8) (s : ByteArray) : eqGuard op t x y (.string s) (str a) = pure () := by
  unfold str; cases op <;> rfl
@[go_sem] theorem eql_str (a b : List UInt8) : binOp .eql 9 (str a) (str b) = pure (.bool (a == b)) := by
  unfold str; rw [binOp_string_eql, ByteArray.toList_mk, ByteArray.toList_mk]
@[go_sem] theorem neq_str (a b : List UInt8) : binOp .neq 9 (str a) (str b) = pure (.bool !(a == b)) := by
  unfold str; rw [binOp_string_neq, ByteArray.toList_mk, ByteArray.toList_mk]
@[go_sem] theorem eql_str_const (a b : List UInt8) : binOp .eql 9 (str a) (.string ⟨b.toArray⟩) = pure (.bool (a == b)) := eql_str a b
@[go_sem] theorem neq_str_const (a b : List UInt8) : binOp .neq 9 (str a) (.string ⟨b.toArray⟩) = pure (.bool !(a == b)) := neq_str a b
theorem extract_str (l : List UInt8) (a b : Nat) : (⟨l.toArray⟩ : ByteArray).extract a b = ⟨((l.drop a).take (b - a)).toArray⟩ := by
  apply ByteArray.ext
  apply Array.ext'
  rw [Lib.extract_data]
@[go_sem] theorem run_slice_str (l : List UInt8) (k k' : IntKind) (i j : Int) (W : World) :
    (Instr.slice 9 (str l) (some (.int k i)) (some (.int k' j)) none).run Tryz.prog W =
      if 0 ≤ j ∧ j ≤ (l.length : Int) then
        (if 0 ≤ i ∧ i ≤ j then .ok (str ((l.take j.toNat).drop i.toNat)) W
         else ((boundsPanic k i j.toNat .sliceB : Sem Nat).run Tryz.prog W).andThen fun a w' => .ok (str ((l.take j.toNat).drop a)) w')
      else ((boundsPanic k' j l.length .sliceAlen : Sem Nat).run Tryz.prog W).andThen fun b w' =>
        ((Instr.sliceBound (.int k i) b .sliceB).run Tryz.prog w').andThen fun a w'' => .ok (str ((l.take b).drop a)) w'' := by
  unfold str
  rw [run_slice_string_if (P := Tryz.prog) W 9 ⟨l.toArray⟩ k k' i j Tryz.underlying9]
  simp only [size_str, extract_str, List.drop_take]
@[go_sem] theorem run_slice_str_from (l : List UInt8) (k : IntKind) (i : Int) (W : World) :
    (Instr.slice 9 (str l) (some (.int k i)) none none).run Tryz.prog W =
      if 0 ≤ i ∧ i ≤ (l.length : Int) then .ok (str (l.drop i.toNat)) W else ((boundsPanic k i l.length .sliceB : Sem Nat).run Tryz.prog W).andThen fun a w' => .ok (str (l.drop a)) w' := by
  unfold str
  rw [run_slice_string_from_if (P := Tryz.prog) W 9 ⟨l.toArray⟩ k i Tryz.underlying9]
  have hd : ∀ a, (l.drop a).take (l.length - a) = l.drop a := fun a => List.take_of_length_le (by simp)
  simp only [size_str, extract_str, hd]
@[go_sem] theorem run_slice_str_to (l : List UInt8) (k : IntKind) (j : Int) (W : World) :
    (Instr.slice 9 (str l) none (some (.int k j)) none).run Tryz.prog W =
      if 0 ≤ j ∧ j ≤ (l.length : Int) then .ok (str (l.take j.toNat)) W else ((boundsPanic k j l.length .sliceAlen : Sem Nat).run Tryz.prog W).andThen fun a w' => .ok (str (l.take a)) w' := by
  unfold str
  rw [run_slice_string_to_if (P := Tryz.prog) W 9 ⟨l.toArray⟩ k j Tryz.underlying9]
  simp only [size_str, extract_str, List.drop_zero, Nat.sub_zero]
@[go_sem high] theorem run_store_str (P : Program) (w : World) (a : Addr) (l : List UInt8) (m : Mode) : (store a (str l) m).run P w = stored P w a (str l) m := run_store P w a _ m rfl
@[go_sem high] theorem cells_str (l : List UInt8) : (str l).cells = #[str l] := rfl
@[go_sem high] theorem cells_match_str (l : List UInt8) : (match str l with | Value.agg cs => cs | v => #[v]) = #[str l] := rfl
@[go_sem high] theorem oneCell_str (l : List UInt8) : (str l).oneCell' = true := rfl
end Big
end Go.Proofs.YtoehdoghghpmjaaGreatDoor
/- A text cut at every byte of one kind: plain. -/
namespace Go.Proofs.YtoehdoghghpmjaaGreatDoor
namespace Big
/-- The pieces between the bytes c. -/
def splitOn (c : UInt8) : List UInt8 → List (List UInt8)
  | [] => [[]]
  | b :: t => if b = c then [] :: splitOn c t else
    match splitOn c t with
    | [] => [[b]]
    | h :: r => (b :: h) :: r
theorem splitOn_ne (c : UInt8) (l : List UInt8) : splitOn c l ≠ [] := by
  cases l with
  | nil => simp [splitOn]
  | cons b t =>
    unfold splitOn
    split
    · simp
    · split <;> simp
theorem index_one (c b : UInt8) (t : List UInt8) : Lib.index (b :: t) [c] = if b = c then 0 else if Lib.index t [c] = -1 then -1 else Lib.index t [c] + 1 := by
  rw [Lib.index]
  by_cases h : b = c
  · subst h
    simp [List.isPrefixOf]
  · have h1 : (List.isPrefixOf [c] (b :: t)) = false := by
      have : c ≠ b := fun e => h e.symm
      simp [List.isPrefixOf, this]
    rw [if_neg (by rw [h1]; simp), if_neg h]
    by_cases h2 : Lib.index t [c] = -1
    · rw [if_pos h2, if_pos (by rw [h2]; rfl)]
    · rw [if_neg h2, if_neg (by rw [beq_iff_eq]; exact h2)]
theorem count_one_nil (c : UInt8) : Lib.count [] [c] = 0 := Lib.count_miss (by simp [Lib.index])
theorem splitK_one (c : UInt8) : ∀ (l : List UInt8) (k : Nat), Lib.count l [c] ≤ k → Lib.splitK [c] 0 k l = splitOn c l := by
  intro l
  induction l with
  | nil =>
    intro k _
    cases k with
    | zero => rfl
    | succ k =>
      rw [Lib.splitK, if_pos (by simp [Lib.index])]
      rfl
  | cons b t ih =>
    intro k hk
    have hi := index_one c b t
    by_cases hb : b = c
    · subst hb
      rw [if_pos rfl] at hi
      have hc := Lib.count_hit (s := b :: t) (sub := [b]) (i := 0) (by simp) hi
      simp only [List.length_cons, List.length_nil, Nat.zero_add, List.drop_succ_cons, List.drop_zero] at hc
      obtain ⟨m, rfl⟩ : ∃ m, k = m + 1 := ⟨k - 1, by omega⟩
      rw [Lib.splitK, hi, if_neg (by decide)]
      simp only [Int.toNat_zero, Nat.zero_add, List.take_zero, List.length_cons, List.length_nil, List.drop_succ_cons, List.drop_zero]
      rw [ih m (by omega), splitOn, if_pos rfl]
    · rw [if_neg hb] at hi
      by_cases hm : Lib.index t [c] = -1
      · rw [if_pos hm] at hi
        have h1 : Lib.splitK [c] 0 k (b :: t) = [b :: t] := by
          cases k with
          | zero => rfl
          | succ k => rw [Lib.splitK, if_pos (by rw [hi]; rfl)]
        have h2 : Lib.splitK [c] 0 0 t = splitOn c t := ih 0 (by rw [Lib.count_miss hm]; omega)
        rw [h1, splitOn, if_neg hb, ← h2]
        rfl
      · rw [if_neg hm] at hi
        obtain ⟨i, hin⟩ : ∃ i : Nat, Lib.index t [c] = (i : Int) := ⟨(Lib.index t [c]).toNat, by have := Lib.index_ge t [c]; omega⟩
        rw [hin] at hi
        have hc := Lib.count_hit (s := b :: t) (sub := [c]) (i := i + 1) (by simp) (by rw [hi]; omega)
        have hc2 := Lib.count_hit (s := t) (sub := [c]) (i := i) (by simp) hin
        simp only [List.length_cons, List.length_nil, Nat.zero_add, List.drop_succ_cons] at hc hc2
        obtain ⟨m, rfl⟩ : ∃ m, k = m + 1 := ⟨k - 1, by omega⟩
        have h2 := ih (m + 1) (by omega)
        have e1 : Lib.splitK [c] 0 (m + 1) t = t.take i :: Lib.splitK [c] 0 m (t.drop (i + 1)) := by
          rw [Lib.splitK, hin, if_neg (by rw [beq_iff_eq]; omega)]
          simp
        have e2 : Lib.splitK [c] 0 (m + 1) (b :: t) = (b :: t.take i) :: Lib.splitK [c] 0 m (t.drop (i + 1)) := by
          rw [Lib.splitK, hi, if_neg (by rw [beq_iff_eq]; omega)]
          have : ((i : Int) + 1).toNat = i + 1 := by omega
          rw [this]
          simp
        rw [e2, splitOn, if_neg hb, ← h2, e1]
theorem split_one (c : UInt8) (l : List UInt8) : (Lib.splitB ⟨[c].toArray⟩ 0 (Lib.countB ⟨l.toArray⟩ ⟨[c].toArray⟩) ⟨l.toArray⟩).map (·.data.toList) = splitOn c l := by
  rw [Lib.splitB_data]
  exact splitK_one c l _ (Nat.le_refl _)

/-- Pieces put together with one byte between them. -/
def joinWith (c : UInt8) : List (List UInt8) → List UInt8
  | [] => []
  | [x] => x
  | x :: y :: r => x ++ c :: joinWith c (y :: r)
theorem join_split (c : UInt8) (l : List UInt8) : joinWith c (splitOn c l) = l := by
  induction l with
  | nil => rfl
  | cons b t ih =>
    rw [splitOn]
    split
    · rename_i h
      subst h
      cases hs : splitOn b t with
      | nil => exact absurd hs (splitOn_ne b t)
      | cons h r =>
        rw [hs] at ih
        rw [joinWith, ih]
        rfl
    · cases hs : splitOn c t with
      | nil => exact absurd hs (splitOn_ne c t)
      | cons h r =>
        rw [hs] at ih
        simp only
        cases r with
        | nil => simp only [joinWith] at ih ⊢; rw [ih]
        | cons y r => rw [joinWith] at ih ⊢; rw [← ih]; rfl
theorem splitOn_snoc_same (c : UInt8) (l : List UInt8) : splitOn c (l ++ [c]) = splitOn c l ++ [[]] := by
  induction l with
  | nil => simp [splitOn]
  | cons b t ih =>
    rw [List.cons_append, splitOn, splitOn, ih]
    split
    · rfl
    · cases hs : splitOn c t with
      | nil => exact absurd hs (splitOn_ne c t)
      | cons h r => rfl
theorem splitOn_snoc_other (c b : UInt8) (hb : b ≠ c) (l : List UInt8) : ∃ t x, splitOn c l = t ++ [x] ∧ splitOn c (l ++ [b]) = t ++ [x ++ [b]] := by
  induction l with
  | nil => exact ⟨[], [], rfl, by simp [splitOn, hb]⟩
  | cons a l ih =>
    obtain ⟨t, x, h1, h2⟩ := ih
    rw [List.cons_append, splitOn, splitOn, h1, h2]
    by_cases ha : a = c
    · rw [if_pos ha, if_pos ha]
      exact ⟨[] :: t, x, rfl, rfl⟩
    · rw [if_neg ha, if_neg ha]
      cases t with
      | nil => exact ⟨[], a :: x, rfl, rfl⟩
      | cons y t => exact ⟨(a :: y) :: t, x, rfl, rfl⟩
end Big
end Go.Proofs.YtoehdoghghpmjaaGreatDoor
/- Texts of decimals: plain. -/
namespace Go.Proofs.YtoehdoghghpmjaaGreatDoor
namespace Big
/-- What stands ahead of the first point. -/
def whole (l : List UInt8) : List UInt8 := l.takeWhile (fun c => c != 46)
/-- What stands behind it. -/
def part (l : List UInt8) : List UInt8 := (l.dropWhile (fun c => c != 46)).drop 1
def hasDot (l : List UInt8) : Bool := decide ((whole l).length < l.length)
theorem whole_nil : whole [] = [] := rfl
theorem part_nil : part [] = [] := rfl
theorem whole_dot (t : List UInt8) : whole (46 :: t) = [] := by simp [whole]
theorem part_dot (t : List UInt8) : part (46 :: t) = t := by simp [part]
theorem whole_cons {c : UInt8} (t : List UInt8) (h : c ≠ 46) : whole (c :: t) = c :: whole t := by simp [whole, h]
theorem part_cons {c : UInt8} (t : List UInt8) (h : c ≠ 46) : part (c :: t) = part t := by simp [part, h]
theorem whole_le (l : List UInt8) : (whole l).length ≤ l.length := by
  unfold whole
  exact (List.takeWhile_sublist _).length_le
/-- With or without a point. -/
theorem dot_split (l : List UInt8) : (hasDot l = true ∧ l = whole l ++ 46 :: part l) ∨ (hasDot l = false ∧ l = whole l ∧ part l = []) := by
  induction l with
  | nil => exact .inr ⟨rfl, rfl, rfl⟩
  | cons c t ih =>
    by_cases h : c = 46
    · subst h
      refine .inl ⟨by unfold hasDot; rw [whole_dot]; simp, by rw [whole_dot, part_dot]; rfl⟩
    · have hd : hasDot (c :: t) = hasDot t := by unfold hasDot; rw [whole_cons t h]; simp
      rw [hd, whole_cons t h, part_cons t h]
      rcases ih with ⟨h1, h2⟩ | ⟨h1, h2, h3⟩
      · exact .inl ⟨h1, by rw [List.cons_append, ← h2]⟩
      · exact .inr ⟨h1, by rw [← h2], h3⟩
theorem index_dot (l : List UInt8) : Lib.index l [46] = if hasDot l then ((whole l).length : Int) else -1 := by
  induction l with
  | nil => rfl
  | cons c t ih =>
    rw [index_one]
    by_cases h : c = 46
    · subst h
      rw [if_pos rfl, whole_dot]
      rfl
    · have hd : hasDot (c :: t) = hasDot t := by unfold hasDot; rw [whole_cons t h]; simp
      rw [if_neg h, hd, ih, whole_cons t h]
      cases hasDot t
      · simp
      · simp only [if_true]
        rw [if_neg (by omega), List.length_cons]
        omega
theorem cut_dot (l : List UInt8) : Lib.cut l [46] = (whole l, part l, hasDot l) := by
  unfold Lib.cut
  rw [index_dot]
  rcases dot_split l with ⟨h1, h2⟩ | ⟨h1, h2, h3⟩
  · rw [h1]
    simp only [if_true]
    rw [if_pos (by omega), Int.toNat_natCast]
    generalize whole l = a at *
    generalize part l = b at *
    subst h2
    simp [List.drop_append]
  · rw [h1]
    simp only [Bool.false_eq_true, if_false]
    rw [if_neg (by omega), h3, ← h2]
/-- Ahead of and behind the point no number is written so. -/
def bad7 (l : List UInt8) : Bool := (hasDot l && ((part l == []) || ((part l).getLast? == some 48))) || (whole l == []) || ((whole l)[0]? == some 48 && decide (1 < (whole l).length))
def good7 (l : List UInt8) : Bool := !bad7 l && (whole l ++ part l).all isDig
/-- The error code of reading a decimal. -/
def code7 (l : List UInt8) : Nat := if 400 < l.length then 7 else if good7 l then 0 else 6
theorem dropZ_all (l : List UInt8) : (l.dropWhile (· == 48)).all isDig = l.all isDig := by
  induction l with
  | nil => rfl
  | cons c t ih =>
    by_cases h : c = 48
    · subst h
      simp only [List.dropWhile_cons, beq_self_eq_true, if_true, List.all_cons]
      rw [ih]
      rfl
    · simp [h]
theorem numOf_cons0 (t : List UInt8) : numOf (48 :: t) = numOf t := rfl
theorem dropZ_num (l : List UInt8) : numOf (l.dropWhile (· == 48)) = numOf l := by
  induction l with
  | nil => rfl
  | cons c t ih =>
    by_cases h : c = 48
    · subst h
      simp only [List.dropWhile_cons, beq_self_eq_true, if_true]
      rw [ih, numOf_cons0]
    · simp [h]
theorem dropZ_head (l : List UInt8) (h : l.dropWhile (· == 48) ≠ []) : (l.dropWhile (· == 48))[0]? ≠ some 48 := by
  induction l with
  | nil => simp at h
  | cons c t ih =>
    by_cases hc : c = 48
    · subst hc
      simp only [List.dropWhile_cons, beq_self_eq_true, if_true] at h ⊢
      exact ih h
    · simp [hc]
/-- The digits without zeros in front. -/
def digs7 (l : List UInt8) : List UInt8 := if l.dropWhile (· == 48) = [] then [48] else l.dropWhile (· == 48)
theorem digs7_natural (l : List UInt8) (hl : l.length ≤ 800) : natural (digs7 l) = if l.all isDig then (numOf l, 0) else (0, 6) := by
  unfold digs7
  have h1 := dropZ_all l
  have h2 := dropZ_num l
  have h4 : (l.dropWhile (· == 48)).length ≤ l.length := (List.dropWhile_sublist _).length_le
  by_cases h : l.dropWhile (· == 48) = []
  · rw [if_pos h]
    rw [h] at h1 h2
    rw [← h1, ← h2]
    rfl
  · rw [if_neg h]
    have h3 := dropZ_head l h
    unfold natural
    rw [if_neg (by omega), if_neg h, if_neg (fun e => h3 e.1), h1, h2]
theorem limbs_dec {n k : Nat} {m : Nat} (h : n < 10 ^ k) (hk : k ≤ m) : (limbs n).length ≤ m := by
  refine length_limbs_le (Nat.lt_of_lt_of_le h (Nat.le_trans (Nat.pow_le_pow_left (show 10 ≤ 4294967296 by decide) k) (pow_mono hk)))
theorem trimS_all (l : List UInt8) (h : l.all isDig = true) : Lib.trimS l [48, 49, 50, 51, 52, 53, 54, 55, 56, 57] = [] := by
  have key : ∀ l : List UInt8, l.all isDig = true → l.dropWhile (([48, 49, 50, 51, 52, 53, 54, 55, 56, 57] : List UInt8).contains ·) = [] := by
    intro l h
    induction l with
    | nil => rfl
    | cons c t ih =>
      rw [List.all_cons, Bool.and_eq_true] at h
      have hc : ([48, 49, 50, 51, 52, 53, 54, 55, 56, 57] : List UInt8).contains c = true := by
        have h1 := h.1
        unfold isDig at h1
        simp only [Bool.and_eq_true, decide_eq_true_eq] at h1
        have : c.toNat = 48 ∨ c.toNat = 49 ∨ c.toNat = 50 ∨ c.toNat = 51 ∨ c.toNat = 52 ∨ c.toNat = 53 ∨ c.toNat = 54 ∨ c.toNat = 55 ∨ c.toNat = 56 ∨ c.toNat = 57 := by omega
        rcases this with e | e | e | e | e | e | e | e | e | e <;> (rw [show c = UInt8.ofNat c.toNat by simp, e]; rfl)
      rw [List.dropWhile_cons, hc]
      exact ih h.2
  unfold Lib.trimS Lib.trimLeftS Lib.trimRightS
  rw [key l.reverse (by rw [List.all_reverse]; exact h)]
  rfl
end Big
end Go.Proofs.YtoehdoghghpmjaaGreatDoor
