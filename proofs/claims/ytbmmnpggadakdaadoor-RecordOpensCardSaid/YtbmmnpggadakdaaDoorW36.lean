import Derived.Test.YtbmmnpggadakdaaDoorTexts
import Derived.Test.YtbmmnpggadakdaaDoorSplit
import Derived.Test.YtbmmnpggadakdaaDoorShelf
/- record.Fields. -/
namespace Go.Proofs.YtbmmnpggadakdaaDoor
namespace Big
open Go.RowKit
/-- The library's variable that strings.Index reads. -/
def MaxVar (w : World) : Prop := ∃ m : Int, w.cell? ⟨1, 0, none⟩ = some (.int .i64 m)
theorem MaxVar.ext {w w' : World} (h : MaxVar w) (hx : Ext w w') : MaxVar w' := by
  obtain ⟨m, h⟩ := h
  exact ⟨m, hx.keep h⟩
theorem maxVar_of_shaped {w : World} (h : w.ShapedOpen Tryd.prog) : MaxVar w := Tryd.laysM146.s1_3 w h
theorem length_splitOn (c : UInt8) (l : List UInt8) : (splitOn c l).length = Lib.count l [c] + 1 := by
  induction l with
  | nil => rw [count_one_nil]; rfl
  | cons b t ih =>
    have hi := index_one c b t
    by_cases hb : b = c
    · subst hb
      rw [if_pos rfl] at hi
      have hc := Lib.count_hit (s := b :: t) (sub := [b]) (i := 0) (by simp) hi
      simp only [List.length_cons, List.length_nil, Nat.zero_add, List.drop_succ_cons, List.drop_zero] at hc
      rw [splitOn, if_pos rfl, List.length_cons, ih]
      omega
    · rw [if_neg hb] at hi
      have hlen : (splitOn c (b :: t)).length = (splitOn c t).length := by
        rw [splitOn, if_neg hb]
        cases hs : splitOn c t with
        | nil => exact absurd hs (splitOn_ne c t)
        | cons h r => rfl
      by_cases hm : Lib.index t [c] = -1
      · rw [if_pos hm] at hi
        rw [hlen, ih, Lib.count_miss hi, Lib.count_miss hm]
      · rw [if_neg hm] at hi
        obtain ⟨i, hin⟩ : ∃ i : Nat, Lib.index t [c] = (i : Int) := ⟨(Lib.index t [c]).toNat, by have := Lib.index_ge t [c]; omega⟩
        rw [hin] at hi
        have hc := Lib.count_hit (s := b :: t) (sub := [c]) (i := i + 1) (by simp) (by rw [hi]; omega)
        have hc2 := Lib.count_hit (s := t) (sub := [c]) (i := i) (by simp) hin
        simp only [List.length_cons, List.length_nil, Nat.zero_add, List.drop_succ_cons] at hc hc2
        rw [hlen, ih, hc, hc2]
theorem string_back (bs : List ByteArray) : bs.map Value.string = (bs.map (·.data.toList)).map str := by
  rw [List.map_map]
  apply List.map_congr_left
  intro b _
  show Value.string b = Value.string ⟨b.data.toList.toArray⟩
  congr 1
theorem split_any (w : World) (c : UInt8) (l : List UInt8) (hl : l.length ≤ 1073741824) (hm : MaxVar w) :
    Calls Tryd.prog 26 #[str l, .string ⟨#[c]⟩] w fun e w' => ∃ v, e = .returned v ∧ OwnS w.heap.size w' v (splitOn c l) ∧ Ext w w' := by
  obtain ⟨m, hm⟩ := hm
  refine (Tryd.strings_Split ⟨l.toArray⟩ ⟨#[c]⟩ m w (by rw [size_str]; omega) hm (Nat.le_refl 1)).mono ?_
  rintro e w' ⟨rfl, rfl⟩
  have h1 := split_one c l
  have h2 := length_splitOn c l
  have e1 : Lib.countB ⟨l.toArray⟩ ⟨#[c]⟩ + 1 = (splitOn c l).length := h2.symm
  have hle : (splitOn c l).length ≤ 2147483648 := by
    have := Lib.count_le l [c]
    omega
  rw [e1, string_back]
  have h3 : List.map (fun x => x.data.toList) (Lib.splitB ⟨#[c]⟩ 0 (Lib.countB ⟨l.toArray⟩ ⟨#[c]⟩) ⟨l.toArray⟩) = splitOn c l := h1
  rw [h3]
  exact ⟨_, rfl, OwnS.block (Blk.new w _ _) (Nat.le_refl _) hle, (Ext.refl w).alloc _⟩
theorem fields_any (w : World) (l : List UInt8) (hl : l.length ≤ 1073741824) (hm : MaxVar w) :
    Calls Tryd.prog 13 #[str l] w fun e w' => ∃ v, e = .returned v ∧ OwnS w.heap.size w' v (splitOn 32 l) ∧ Ext w w' := by
  have HS := Lib.hid (split_any w 32 l hl hm)
  go_enter Tryd.func13, Tryd.ntmps13
  go_wp2_with fail
  refine HS.out.mono ?_
  rintro e w' ⟨v, rfl, ho, hx⟩
  go_wp2_with fail
  go_ret
  exact ⟨_, rfl, ho, hx⟩
end Big
end Go.Proofs.YtbmmnpggadakdaaDoor
