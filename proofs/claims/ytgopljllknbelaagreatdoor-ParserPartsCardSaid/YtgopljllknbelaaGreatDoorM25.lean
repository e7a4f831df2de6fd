import Derived.Test.YtgopljllknbelaaGreatDoorM18
import Derived.Test.YtgopljllknbelaaGreatDoorM5
import Derived.Test.YtgopljllknbelaaGreatDoorM3
import Derived.Test.YtgopljllknbelaaGreatDoorM24
import Derived.Test.YtgopljllknbelaaGreatDoorM15
/- Bytes of a text in memory, one of them set. -/
namespace Go.Proofs.YtgopljllknbelaaGreatDoor
namespace Big
open Go.RowKit
theorem bytesAt_frozen (w : World) (l : List UInt8) (j : Nat) (h : j < l.length) : (bytesAt w l).frozen? ⟨w.heap.size, j, none⟩ = false := by
  have hs : l.length ≤ (Lib.bytesCells w 5 ⟨l.toArray⟩).size := by
    unfold Lib.bytesCells
    simp
  unfold bytesAt World.frozen?
  rw [Lib.bytesWorld_at_new]
  simp
  omega
theorem RArr.set {w : World} {g o n c i : Nat} {vs : List Value} {u : Value} (h : RArr w (.slice (some ⟨g, o, none⟩) n c) vs) (hi : i < vs.length) :
    RArr (w.setCell ⟨g, o + i, none⟩ u) (.slice (some ⟨g, o, none⟩) n c) (vs.set i u) := by
  obtain ⟨A, c', he, h2, h3, h4⟩ := h
  injection he with he1 he2 he3
  subst he1
  subst he3
  subst he2
  refine ⟨_, c, by rw [List.length_set], by rw [List.length_set]; exact h2, h3, fun hp => ?_⟩
  obtain ⟨b, o', ha, hlt, hc⟩ := h4 (by omega)
  injection ha with ha
  injection ha with ha1 ha2 _
  subst ha1
  subst ha2
  refine ⟨g, o, rfl, by simpa [World.setCell] using hlt, fun j v hj => ?_⟩
  rw [List.getElem?_set] at hj
  by_cases hij : i = j
  · subst hij
    rw [if_pos rfl, if_pos hi] at hj
    injection hj with hj
    subst hj
    exact World.cell?_setCell_same _ _ _ (hc i _ (List.getElem?_eq_getElem hi))
  · rw [if_neg hij] at hj
    rw [World.cell?_setCell_other _ _ _ _ (fun e => hij (by injection e with _ e _; omega))]
    exact hc j v hj
theorem bytesAt_arr (w : World) (l : List UInt8) (c : Nat) (_hl : l.length ≤ 1073741824) (hc : l.length ≤ c) (hm : c ≤ maxLen) : Arr8 (bytesAt w l) (.slice (some ⟨w.heap.size, 0, none⟩) l.length c) l := by
  refine ⟨_, c, by rw [List.length_map], by rw [List.length_map]; exact hc, hm, fun _ => ⟨w.heap.size, 0, rfl, bytesAt_lt w l, fun j u hj => ?_⟩⟩
  have hjl : j < l.length := by
    rcases Nat.lt_or_ge j l.length with h | h
    · exact h
    · rw [List.getElem?_eq_none (by simpa using h)] at hj; cases hj
  rw [map_d8_get hjl] at hj
  injection hj with hj
  subst hj
  rw [Nat.zero_add, bytesAt_cell w l j hjl, byteAt_eq l j hjl]
  rfl
theorem run_bytesAt2 (w : World) (l : List UInt8) (hl : l.length ≤ 1073741824) : ∃ c, (convert 9 65 (str l)).run Tryz.prog w = .ok (.slice (some ⟨w.heap.size, 0, none⟩) l.length c) (bytesAt w l) ∧
    Arr8 (bytesAt w l) (.slice (some ⟨w.heap.size, 0, none⟩) l.length c) l := by
  have := Lib.run_convert_string_bytes (P := Tryz.prog) w 9 65 5 ⟨l.toArray⟩ Tryz.underlying9 Tryz.underlying65 Tryz.underlying5
  rw [size_str] at this
  exact ⟨_, this, bytesAt_arr w l _ hl (grownCap_ge w l.length 0 _) (grownCap_le_maxLen w l.length 0 _ (by unfold maxLen; omega))⟩
theorem Arr8.set {w : World} {g n c i : Nat} {l : List UInt8} {b : UInt8} (h : Arr8 w (.slice (some ⟨g, 0, none⟩) n c) l) (hi : i < l.length) :
    Arr8 (w.setCell ⟨g, i, none⟩ (d8 b)) (.slice (some ⟨g, 0, none⟩) n c) (l.set i b) := by
  have h1 := RArr.set (u := d8 b) h (i := i) (by simpa using hi)
  rw [Nat.zero_add] at h1
  unfold Arr8
  rw [List.map_set]
  exact h1
/-- A row that was there before these bytes was written: they stand. -/
theorem Arr8.kept {w w' wa : World} {g n c B : Nat} {l : List UInt8} {t : TypeId} {u : Value} {us : List Value} (h : Arr8 w (.slice (some ⟨g, 0, none⟩) n c) l) (k : ROwn t B wa u us) (hg : wa.heap.size ≤ g) (hgr : w.grownBy w' (rowOf u)) :
    Arr8 w' (.slice (some ⟨g, 0, none⟩) n c) l := by
  obtain ⟨A, c', he, h2, h3, h4⟩ := h
  injection he with he1 he2 he3
  subst he1
  subst he3
  subst he2
  refine ⟨_, c, rfl, h2, h3, fun hp => ?_⟩
  obtain ⟨b, o, hbo, hlt, hc⟩ := h4 hp
  injection hbo with hbo
  injection hbo with hb ho _
  subst hb
  subst ho
  have hne : some g ≠ rowOf u := by
    obtain ⟨A', c', rfl, k2, k3, k4⟩ := k
    rcases k4 with ⟨_, rfl⟩ | ⟨g', cur', rfl, _, kblk, _, _⟩
    · rcases A' with _ | a <;> simp [rowOf]
    · simp only [rowOf]
      split
      · simp
      · intro he
        injection he with he
        have := kblk.lt
        omega
  exact ⟨g, 0, rfl, Nat.lt_of_lt_of_le hlt hgr.size, fun j v hj => (World.cell?_of_block (w := w) (a := ⟨g, 0 + j, none⟩) (hgr.block g hlt hne)).trans (hc j v hj)⟩
end Big
end Go.Proofs.YtgopljllknbelaaGreatDoor
/- Tokens: they cover their text; joined with spaces they come again. Plain. -/
namespace Go.Proofs.YtgopljllknbelaaGreatDoor
namespace Big
/-- The tokens ts stand in the text x from a on, in order, and only spaces stand between them and behind. -/
def Cov (x : List UInt8) : Nat → List Tok → Prop
  | a, [] => a ≤ x.length ∧ ∀ i, a ≤ i → i < x.length → x[i]? = some 32
  | a, t :: ts => a ≤ t.at_ ∧ t.text ≠ [] ∧ t.at_ + t.text.length ≤ x.length ∧ (x.drop t.at_).take t.text.length = t.text ∧ (∀ i, a ≤ i → i < t.at_ → x[i]? = some 32) ∧ Cov x (t.at_ + t.text.length) ts
theorem Cov.space {x : List UInt8} {a : Nat} {ts : List Tok} (hc : x[a]? = some 32) (h : Cov x (a + 1) ts) : Cov x a ts := by
  cases ts with
  | nil =>
    refine ⟨by have := h.1; omega, fun i h1 h2 => ?_⟩
    rcases Nat.eq_or_lt_of_le h1 with h3 | h3
    · rw [← h3]; exact hc
    · exact h.2 i h3 h2
  | cons t ts =>
    obtain ⟨h1, h2, h3, h4, h5, h6⟩ := h
    refine ⟨by omega, h2, h3, h4, fun i q1 q2 => ?_, h6⟩
    rcases Nat.eq_or_lt_of_le q1 with q3 | q3
    · rw [← q3]; exact hc
    · exact h5 i q3 q2
/-- A token that stands for itself wherever a space or nothing follows. -/
def TokOk (t : Tok) : Prop := ∀ rest : List UInt8, (rest = [] ∨ ∃ r, rest = 32 :: r) → tokLen (t.text ++ rest) = some (t.kind, t.text.length)
theorem run_halt (p : Nat → Bool) (hp : p 32 = false) (m : List UInt8) (rest : List UInt8) (hr : rest = [] ∨ ∃ r, rest = 32 :: r) : runLen p (m.take (runLen p m) ++ rest) = runLen p m := by
  induction m with
  | nil =>
    rcases hr with rfl | ⟨r, rfl⟩
    · rfl
    · show runLen p (32 :: r) = 0
      rw [runLen, if_neg (by rw [show (32 : UInt8).toNat = 32 from rfl, hp]; simp)]
  | cons c t ih =>
    rw [runLen]
    by_cases hc : p c.toNat = true
    · rw [if_pos hc, List.take_succ_cons, List.cons_append, runLen, if_pos hc, ih]
    · rw [if_neg hc]
      rcases hr with rfl | ⟨r, rfl⟩
      · rfl
      · show runLen p (32 :: r) = 0
        rw [runLen, if_neg (by rw [show (32 : UInt8).toNat = 32 from rfl, hp]; simp)]
theorem tokLen_stop {m : List UInt8} {k n : Nat} (h : tokLen m = some (k, n)) : TokOk ⟨k, 0, m.take n⟩ := by
  intro rest hr
  have hn := tokLen_pos h
  have hlen : (m.take n).length = n := by rw [List.length_take]; omega
  simp only
  rw [hlen]
  unfold tokLen at h
  split at h
  · cases h
  · rename_i c t
    obtain ⟨n', rfl⟩ : ∃ n', n = n' + 1 := ⟨n - 1, by omega⟩
    split at h
    · rename_i hc
      split at h
      · rename_i h24
        injection h with h
        injection h with h1 h2
        have h3 := run_halt wordN (by decide) (c :: t) rest hr
        rw [h2] at h3
        rw [List.take_succ_cons, List.cons_append] at h3 ⊢
        unfold tokLen
        simp only
        rw [if_pos hc, h3, if_pos (by omega), h1]
      · cases h
    · rename_i hc
      split at h
      · rename_i hd
        split at h
        · rename_i h7
          injection h with h
          injection h with h1 h2
          have h3 := run_halt numN (by decide) (c :: t) rest hr
          rw [h2] at h3 h7
          have h4 : ((c :: t).take (n' + 1) ++ rest).take (n' + 1) = (c :: t).take (n' + 1) := by
            rw [List.take_append_of_le_length (by omega), List.take_of_length_le (by omega)]
          rw [List.take_succ_cons, List.cons_append] at h3 h4 ⊢
          rw [List.take_succ_cons] at h7
          unfold tokLen
          simp only
          rw [if_neg hc, if_pos hd, h3, h4, if_pos h7, h1]
        · cases h
      · rename_i hd
        split at h
        · rename_i hs
          injection h with h
          injection h with h1 h2
          rw [List.take_succ_cons, List.cons_append]
          unfold tokLen
          simp only
          rw [if_neg hc, if_neg hd, if_pos hs, h1]
          congr 2
        · cases h
theorem TokOk.at {t : Tok} {a : Nat} (h : TokOk t) : TokOk ⟨t.kind, a, t.text⟩ := h
/-- What a scan that ends well has found. -/
theorem scanF_cov (f : Nat) (l : List UInt8) : ∀ (a : Nat) (ts ts' : List Tok) (n : Nat), a ≤ l.length → scanF f l a ts = (ts', n, 0) → n = l.length ∧ ∃ new, ts' = ts ++ new ∧ Cov l a new ∧ ∀ t ∈ new, TokOk t := by
  induction f with
  | zero => intro a ts ts' n _ h; unfold scanF at h; injection h with _ h; injection h with _ h; cases h
  | succ f ih =>
    intro a ts ts' n ha h
    unfold scanF at h
    split at h
    · rename_i h0
      injection h with h1 h2
      injection h2 with h2 _
      exact ⟨h2.symm, [], by rw [List.append_nil, h1], ⟨ha, fun i _ _ => by omega⟩, fun t ht => by cases ht⟩
    · rename_i h0
      split at h
      · rename_i hc
        obtain ⟨h1, new, h2, h3, h4⟩ := ih _ _ _ _ (by omega) h
        exact ⟨h1, new, h2, h3.space hc, h4⟩
      · split at h
        · injection h with _ h; injection h with _ h; cases h
        · rename_i hc _ k n' ht
          have hn := tokLen_pos ht
          rw [List.length_drop] at hn
          obtain ⟨h1, new, h2, h3, h4⟩ := ih _ _ _ _ (by omega) h
          have hlen : ((l.drop a).take n').length = n' := by rw [List.length_take, List.length_drop]; omega
          refine ⟨h1, ⟨k, a, (l.drop a).take n'⟩ :: new, by rw [h2, List.append_assoc]; rfl, ⟨Nat.le_refl _, fun e => ?_, ?_, ?_, fun i h5 h6 => ?_, ?_⟩, fun t ht' => ?_⟩
          · simp only at e
            rw [e, List.length_nil] at hlen
            omega
          · simp only; omega
          · simp only; rw [hlen]
          · simp only at h6; omega
          · simp only; rw [hlen]; exact h3
          · rcases List.mem_cons.1 ht' with rfl | h5
            · exact (tokLen_stop ht).at
            · exact h4 t h5
theorem scanT_cov {l : List UInt8} {ts : List Tok} {n : Nat} (h : scanT l = (ts, n, 0)) : n = l.length ∧ Cov l 0 ts ∧ ∀ t ∈ ts, TokOk t := by
  unfold scanT at h
  split at h
  · injection h with _ h; injection h with _ h; cases h
  · obtain ⟨h1, new, h2, h3, h4⟩ := scanF_cov _ l 0 [] ts n (Nat.zero_le _) h
    rw [List.nil_append] at h2
    rw [h2]
    exact ⟨h1, h3, h4⟩
/-- The code of a scan. -/
theorem scanT_code (l : List UInt8) : (scanT l).2.2 = 0 ∨ ((scanT l).2.2 = 6 ∧ (scanT l).1 = []) ∨ ((scanT l).2.2 = 7 ∧ (scanT l).1 = [] ∧ (scanT l).2.1 = 0) := by
  have key : ∀ (f a : Nat) (ts : List Tok), (scanF f l a ts).2.2 = 0 ∨ ((scanF f l a ts).2.2 = 6 ∧ (scanF f l a ts).1 = []) := by
    intro f
    induction f with
    | zero => intro a ts; exact .inr ⟨rfl, rfl⟩
    | succ f ih =>
      intro a ts
      unfold scanF
      split
      · exact .inl rfl
      · split
        · exact ih _ _
        · split
          · exact .inr ⟨rfl, rfl⟩
          · exact ih _ _
  unfold scanT
  split
  · exact .inr (.inr ⟨rfl, rfl, rfl⟩)
  · rcases key (l.length + 1) 0 [] with h | h
    · exact .inl h
    · exact .inr (.inl h)
/-- Tokens joined, each behind the gap g. -/
def joinG (g : List UInt8) : List Tok → List UInt8
  | [] => []
  | t :: ts => g ++ (t.text ++ joinG g ts)
theorem joinG_append (g : List UInt8) (a b : List Tok) : joinG g (a ++ b) = joinG g a ++ joinG g b := by
  induction a with
  | nil => rfl
  | cons t ts ih => rw [List.cons_append, joinG, joinG, ih]; simp only [List.append_assoc]
theorem scanGo_spaces (l : List UInt8) (ts : List Tok) (m : Nat) : ∀ (a : Nat) (r : List UInt8), l.drop a = List.replicate m 32 ++ r → scanGo l a ts = scanGo l (a + m) ts := by
  induction m with
  | zero => intro a r _; rfl
  | succ m ih =>
    intro a r h
    have hlt : a < l.length := by
      rcases Nat.lt_or_ge a l.length with h1 | h1
      · exact h1
      · rw [List.drop_eq_nil_of_le h1] at h; cases h
    have h0 : l[a]? = some 32 := by
      have h1 : (l.drop a)[0]? = some 32 := by rw [h]; rfl
      rw [List.getElem?_drop] at h1
      exact h1
    have h2 : l.drop (a + 1) = List.replicate m 32 ++ r := by
      rw [← List.drop_drop, h]; rfl
    rw [scanGo_space hlt h0, ih (a + 1) r h2]
    congr 1
    omega
theorem tokLen_space (r : List UInt8) : tokLen (32 :: r) = none := by
  unfold tokLen
  rfl
/-- Tokens joined with gaps are read again. -/
theorem scanGo_join (m : Nat) (l : List UInt8) : ∀ (new : List Tok) (a : Nat) (ts : List Tok), (∀ t ∈ new, TokOk t) → (∀ t ∈ new, t.text ≠ []) → l.drop a = joinG (List.replicate (m + 1) 32) new → a ≤ l.length →
    ∃ back, scanGo l a ts = (ts ++ back, l.length, 0) ∧ back.map (fun t => (t.kind, t.text)) = new.map (fun t => (t.kind, t.text)) := by
  intro new
  induction new with
  | nil =>
    intro a ts _ _ h ha
    have h1 : l.length ≤ a := by
      have h2 := congrArg List.length h
      rw [List.length_drop] at h2
      simp [joinG] at h2
      omega
    exact ⟨[], by rw [scanGo_end h1, List.append_nil], rfl⟩
  | cons t new ih =>
    intro a ts hok hne h ha
    have hl := congrArg List.length h
    rw [List.length_drop, joinG, List.length_append, List.length_replicate, List.length_append] at hl
    have ht := hok t (by simp)
    have htn := hne t (by simp)
    have htl : 0 < t.text.length := by cases hq : t.text with
      | nil => exact absurd hq htn
      | cons c r => simp
    have h1 := scanGo_spaces l ts (m + 1) a (t.text ++ joinG (List.replicate (m + 1) 32) new) h
    have h2 : l.drop (a + (m + 1)) = t.text ++ joinG (List.replicate (m + 1) 32) new := by
      rw [← List.drop_drop, h, joinG, List.drop_left' (by simp)]
    have h3 : tokLen (l.drop (a + (m + 1))) = some (t.kind, t.text.length) := by
      rw [h2]
      refine ht _ ?_
      cases new with
      | nil => exact .inl rfl
      | cons t' new' => exact .inr ⟨List.replicate m 32 ++ (t'.text ++ joinG (List.replicate (m + 1) 32) new'), by rw [joinG, List.replicate_succ]; rfl⟩
    have h4 : l[a + (m + 1)]? ≠ some 32 := by
      intro he
      have h5 : (l.drop (a + (m + 1)))[0]? = some 32 := by rw [List.getElem?_drop]; exact he
      cases hq : l.drop (a + (m + 1)) with
      | nil => rw [hq] at h5; cases h5
      | cons c r =>
        rw [hq] at h5 h3
        injection h5 with h5
        rw [h5, tokLen_space] at h3
        cases h3
    have h6 : (l.drop (a + (m + 1))).take t.text.length = t.text := by rw [h2, List.take_left' rfl]
    have h7 : l.drop (a + (m + 1) + t.text.length) = joinG (List.replicate (m + 1) 32) new := by rw [← List.drop_drop, h2, List.drop_left' rfl]
    obtain ⟨back, h8, h9⟩ := ih (a + (m + 1) + t.text.length) (ts ++ [⟨t.kind, a + (m + 1), t.text⟩]) (fun x hx => hok x (by simp [hx])) (fun x hx => hne x (by simp [hx])) h7 (by omega)
    refine ⟨⟨t.kind, a + (m + 1), t.text⟩ :: back, ?_, ?_⟩
    · rw [h1, scanGo_some (by omega) h4 h3, h6, h8, List.append_assoc]; rfl
    · rw [List.map_cons, List.map_cons, h9]
theorem Cov.ne {x : List UInt8} : ∀ {a : Nat} {ts : List Tok}, Cov x a ts → ∀ t ∈ ts, t.text ≠ []
  | _, [], _, t, h => by cases h
  | a, s :: ts, ⟨_, h2, _, _, _, h6⟩, t, h => by
    rcases List.mem_cons.1 h with rfl | h
    · exact h2
    · exact h6.ne t h
theorem scanT_join {l : List UInt8} {ts : List Tok} {n m : Nat} (h : scanT l = (ts, n, 0)) (hlen : (joinG (List.replicate (m + 1) 32) ts).length ≤ 400) :
    ∃ back, scanT (joinG (List.replicate (m + 1) 32) ts) = (back, (joinG (List.replicate (m + 1) 32) ts).length, 0) ∧ back.map (fun t => (t.kind, t.text)) = ts.map (fun t => (t.kind, t.text)) := by
  obtain ⟨_, h2, h3⟩ := scanT_cov h
  obtain ⟨back, h4, h5⟩ := scanGo_join m (joinG (List.replicate (m + 1) 32) ts) ts 0 [] h3 h2.ne rfl (Nat.zero_le _)
  refine ⟨back, ?_, h5⟩
  unfold scanT
  rw [if_neg (by omega)]
  exact h4
end Big
end Go.Proofs.YtgopljllknbelaaGreatDoor
/- Tokens that are written one behind the other are read again. Plain. -/
namespace Go.Proofs.YtgopljllknbelaaGreatDoor
namespace Big
/-- A byte at which words and numbers end. -/
def endB (c : UInt8) : Bool := !(wordN c.toNat) && !(numN c.toNat)
theorem run_halt2 (p : Nat → Bool) (m : List UInt8) (rest : List UInt8) (hr : ∀ c r, rest = c :: r → p c.toNat = false) : runLen p (m.take (runLen p m) ++ rest) = runLen p m := by
  have h0 : runLen p rest = 0 := by
    cases rest with
    | nil => rfl
    | cons c r => rw [runLen, if_neg (by rw [hr c r rfl]; simp)]
  induction m with
  | nil => exact h0
  | cons c t ih =>
    rw [runLen]
    by_cases hc : p c.toNat = true
    · rw [if_pos hc, List.take_succ_cons, List.cons_append, runLen, if_pos hc, ih]
    · rw [if_neg hc]
      exact h0
/-- What a token's text is. -/
def TokFine (t : Tok) : Prop :=
  (t.kind = 1 ∧ code7 t.text = 0 ∧ runLen numN t.text = t.text.length ∧ digN (t.text.getD 0 0).toNat = true ∧ 1 ≤ t.text.length) ∨
  (t.kind = 2 ∧ runLen wordN t.text = t.text.length ∧ letN (t.text.getD 0 0).toNat = true ∧ 1 ≤ t.text.length ∧ t.text.length ≤ 24) ∨
  (t.kind = 3 ∧ ∃ c : UInt8, t.text = [c] ∧ signN c.toNat = true)
theorem take_run (p : Nat → Bool) (m : List UInt8) : runLen p (m.take (runLen p m)) = (m.take (runLen p m)).length := by
  have h1 := run_halt2 p m [] (fun c r h => by cases h)
  rw [List.append_nil] at h1
  have := runLen_le p m
  rw [h1, List.length_take]
  omega
theorem tokLen_fine {m : List UInt8} {k n : Nat} (h : tokLen m = some (k, n)) (a : Nat) : TokFine ⟨k, a, m.take n⟩ := by
  have hn := tokLen_pos h
  unfold tokLen at h
  split at h
  · cases h
  · rename_i c t
    split at h
    · rename_i hc
      split at h
      · rename_i h24
        injection h with h
        injection h with h1 h2
        subst h1
        subst h2
        refine .inr (.inl ⟨rfl, take_run _ _, ?_, ?_, ?_⟩)
        · obtain ⟨n', hn'⟩ : ∃ n', runLen wordN (c :: t) = n' + 1 := ⟨runLen wordN (c :: t) - 1, by omega⟩
          simp only
          rw [hn', List.take_succ_cons]
          exact hc
        · simp only; rw [List.length_take]; omega
        · simp only; rw [List.length_take]; omega
      · cases h
    · split at h
      · rename_i hd
        split at h
        · rename_i h7
          injection h with h
          injection h with h1 h2
          subst h1
          subst h2
          refine .inl ⟨rfl, h7, take_run _ _, ?_, ?_⟩
          · obtain ⟨n', hn'⟩ : ∃ n', runLen numN (c :: t) = n' + 1 := ⟨runLen numN (c :: t) - 1, by omega⟩
            simp only
            rw [hn', List.take_succ_cons]
            exact hd
          · simp only; rw [List.length_take]; omega
        · cases h
      · split at h
        · rename_i hs
          injection h with h
          injection h with h1 h2
          subst h1
          subst h2
          exact .inr (.inr ⟨rfl, c, rfl, hs⟩)
        · cases h
theorem scanF_fine (f : Nat) (l : List UInt8) : ∀ (a : Nat) (ts : List Tok), (∀ t ∈ ts, TokFine t) → ∀ t ∈ (scanF f l a ts).1, TokFine t := by
  induction f with
  | zero => intro a ts _ t h; cases h
  | succ f ih =>
    intro a ts hts t h
    unfold scanF at h
    split at h
    · exact hts t h
    · split at h
      · exact ih _ _ hts t h
      · split at h
        · cases h
        · rename_i k n ht
          refine ih _ _ (fun x hx => ?_) t h
          rcases List.mem_append.1 hx with hx | hx
          · exact hts x hx
          · rw [List.mem_singleton] at hx
            subst hx
            exact tokLen_fine ht a
theorem scanT_fine (l : List UInt8) : ∀ t ∈ (scanT l).1, TokFine t := by
  unfold scanT
  split
  · intro t h; cases h
  · exact scanF_fine _ l 0 [] (fun t h => by cases h)
theorem sign_props (c : UInt8) (h : signN c.toNat = true) : letN c.toNat = false ∧ digN c.toNat = false ∧ c ≠ 32 ∧ endB c = true := by
  have hall : ∀ n : Fin 256, signN n.val = true → letN n.val = false ∧ digN n.val = false ∧ n.val ≠ 32 ∧ (!(wordN n.val) && !(numN n.val)) = true := by decide +kernel
  have h1 := hall ⟨c.toNat, UInt8.toNat_lt c⟩ h
  refine ⟨h1.1, h1.2.1, fun e => h1.2.2.1 (by rw [e]; rfl), h1.2.2.2⟩
theorem fine_head {t : Tok} (h : TokFine t) : ∃ c r, t.text = c :: r ∧ c ≠ 32 := by
  have hne : ∀ l : List UInt8, 1 ≤ l.length → (letN (l.getD 0 0).toNat = true ∨ digN (l.getD 0 0).toNat = true) → ∃ c r, l = c :: r ∧ c ≠ 32 := by
    intro l h1 h2
    cases l with
    | nil => simp at h1
    | cons c r =>
      refine ⟨c, r, rfl, fun e => ?_⟩
      subst e
      rcases h2 with h2 | h2
      · have h3 : letN (32 : UInt8).toNat = true := h2
        revert h3
        decide
      · have h3 : digN (32 : UInt8).toNat = true := h2
        revert h3
        decide
  rcases h with ⟨_, _, _, h1, h2⟩ | ⟨_, _, h1, h2, _⟩ | ⟨_, c, h1, h2⟩
  · exact hne _ h2 (.inr h1)
  · exact hne _ h2 (.inl h1)
  · exact ⟨c, [], h1, (sign_props c h2).2.2.1⟩
/-- A fine token ahead of what ends it is read. -/
theorem fine_read {t : Tok} (h : TokFine t) (rest : List UInt8) (hr : t.kind = 3 ∨ ∀ c r, rest = c :: r → endB c = true) : tokLen (t.text ++ rest) = some (t.kind, t.text.length) := by
  rcases h with ⟨hk, h7, h2, h3, h4⟩ | ⟨hk, h2, h3, h4, h5⟩ | ⟨hk, c, h2, h3⟩
  · have hr2 : ∀ c r, rest = c :: r → numN c.toNat = false := fun c r e => by
      rcases hr with hr | hr
      · omega
      · have := hr c r e
        unfold endB at this
        simpa using (Bool.and_eq_true_iff.1 this).2
    have h5 := run_halt2 numN t.text rest hr2
    rw [h2, List.take_of_length_le (Nat.le_refl _)] at h5
    cases ht : t.text with
    | nil => rw [ht] at h4; simp at h4
    | cons c r =>
      rw [ht] at h3 h5 h7
      replace h3 : digN c.toNat = true := h3
      have hnl : letN c.toNat = false := by
        have hall : ∀ n : Fin 256, digN n.val = true → letN n.val = false := by decide +kernel
        exact hall ⟨c.toNat, UInt8.toNat_lt c⟩ h3
      rw [List.cons_append] at h5 ⊢
      unfold tokLen
      simp only
      have h6 : (c :: (r ++ rest)).take (c :: r).length = c :: r := by rw [← List.cons_append, List.take_left' rfl]
      rw [if_neg (by rw [hnl]; simp), if_pos h3, h5, h6, if_pos h7, hk]
  · have hr2 : ∀ c r, rest = c :: r → wordN c.toNat = false := fun c r e => by
      rcases hr with hr | hr
      · omega
      · have := hr c r e
        unfold endB at this
        simpa using (Bool.and_eq_true_iff.1 this).1
    have h6 := run_halt2 wordN t.text rest hr2
    rw [h2, List.take_of_length_le (Nat.le_refl _)] at h6
    cases ht : t.text with
    | nil => rw [ht] at h4; simp at h4
    | cons c r =>
      rw [ht] at h3 h6 h5
      replace h3 : letN c.toNat = true := h3
      rw [List.cons_append] at h6 ⊢
      unfold tokLen
      simp only
      rw [if_pos h3, h6, if_pos h5, hk]
  · obtain ⟨hl, hd, _, _⟩ := sign_props c h3
    rw [h2, hk]
    show tokLen (c :: rest) = some (3, 1)
    unfold tokLen
    simp only
    rw [if_neg (by rw [hl]; simp), if_neg (by rw [hd]; simp), if_pos h3]
/-- Tokens, each behind some spaces, and spaces at the end. -/
def rend (e : Nat) : List (Nat × Tok) → List UInt8
  | [] => List.replicate e 32
  | (g, t) :: l => List.replicate g 32 ++ (t.text ++ rend e l)
/-- Wherever no space stands between two tokens, the first or the second is a sign. -/
def RendOk : List (Nat × Tok) → Prop
  | [] => True
  | [(_, t)] => TokFine t
  | (_, t) :: (g, u) :: l => TokFine t ∧ (1 ≤ g ∨ t.kind = 3 ∨ u.kind = 3) ∧ RendOk ((g, u) :: l)
theorem RendOk.head {g : Nat} {t : Tok} {l : List (Nat × Tok)} (h : RendOk ((g, t) :: l)) : TokFine t ∧ RendOk l := by
  cases l with
  | nil => exact ⟨h, trivial⟩
  | cons p l => exact ⟨h.1, h.2.2⟩
theorem rend_start {e : Nat} {g : Nat} {t : Tok} {l : List (Nat × Tok)} (h : RendOk ((g, t) :: l)) : t.kind = 3 ∨ ∀ c r, rend e l = c :: r → endB c = true := by
  have h32 : endB 32 = true := by decide
  cases l with
  | nil =>
    right
    intro c r he
    cases e with
    | zero => cases he
    | succ e =>
      injection he with he _
      rw [← he]; exact h32
  | cons p l =>
    obtain ⟨g', u⟩ := p
    obtain ⟨h1, h2, h3⟩ := h
    by_cases hk : t.kind = 3
    · exact .inl hk
    · right
      intro c r he
      cases g' with
      | succ g' =>
        injection he with he _
        rw [← he]; exact h32
      | zero =>
        have hu : u.kind = 3 := by omega
        rcases h3.head.1 with ⟨h4, _⟩ | ⟨h4, _⟩ | ⟨_, c', h4, h5⟩
        · omega
        · omega
        · rw [rend, List.replicate_zero, List.nil_append, h4] at he
          injection he with he _
          rw [← he]
          exact (sign_props c' h5).2.2.2
theorem scanGo_rend (l : List UInt8) (e : Nat) : ∀ (ps : List (Nat × Tok)) (a : Nat) (ts : List Tok), RendOk ps → l.drop a = rend e ps → a ≤ l.length →
    ∃ back, scanGo l a ts = (ts ++ back, l.length, 0) ∧ back.map (fun t => (t.kind, t.text)) = ps.map (fun p => (p.2.kind, p.2.text)) := by
  intro ps
  induction ps with
  | nil =>
    intro a ts _ h ha
    have hl := congrArg List.length h
    rw [List.length_drop, rend, List.length_replicate] at hl
    have h1 := scanGo_spaces l ts e a [] (by rw [List.append_nil]; exact h)
    exact ⟨[], by rw [h1, scanGo_end (by omega), List.append_nil], rfl⟩
  | cons p ps ih =>
    intro a ts hok h ha
    obtain ⟨g, t⟩ := p
    have hf := hok.head.1
    obtain ⟨c0, r0, hc0, hc32⟩ := fine_head hf
    have hl := congrArg List.length h
    rw [List.length_drop, rend, List.length_append, List.length_replicate, List.length_append] at hl
    have htl : 0 < t.text.length := by rw [hc0]; simp
    have h1 := scanGo_spaces l ts g a (t.text ++ rend e ps) h
    have h2 : l.drop (a + g) = t.text ++ rend e ps := by
      rw [← List.drop_drop, h, rend, List.drop_left' (by simp)]
    have h3 : tokLen (l.drop (a + g)) = some (t.kind, t.text.length) := by
      rw [h2]
      exact fine_read hf _ (rend_start hok)
    have h4 : l[a + g]? ≠ some 32 := by
      intro he
      have h5 : (l.drop (a + g))[0]? = some 32 := by rw [List.getElem?_drop]; exact he
      rw [h2, hc0] at h5
      injection h5 with h5
      exact hc32 h5
    have h6 : (l.drop (a + g)).take t.text.length = t.text := by rw [h2, List.take_left' rfl]
    have h7 : l.drop (a + g + t.text.length) = rend e ps := by rw [← List.drop_drop, h2, List.drop_left' rfl]
    obtain ⟨back, h8, h9⟩ := ih (a + g + t.text.length) (ts ++ [⟨t.kind, a + g, t.text⟩]) hok.head.2 h7 (by omega)
    refine ⟨⟨t.kind, a + g, t.text⟩ :: back, ?_, ?_⟩
    · rw [h1, scanGo_some (by omega) h4 h3, h6, h8, List.append_assoc]; rfl
    · rw [List.map_cons, List.map_cons, h9]
/-- The tokens of a rendered text. -/
theorem scanT_rend {e : Nat} {ps : List (Nat × Tok)} (hok : RendOk ps) (hlen : (rend e ps).length ≤ 400) :
    ∃ back, scanT (rend e ps) = (back, (rend e ps).length, 0) ∧ back.map (fun t => (t.kind, t.text)) = ps.map (fun p => (p.2.kind, p.2.text)) := by
  obtain ⟨back, h4, h5⟩ := scanGo_rend (rend e ps) e ps 0 [] hok rfl (Nat.zero_le _)
  refine ⟨back, ?_, h5⟩
  unfold scanT
  rw [if_neg (by omega)]
  exact h4
end Big
end Go.Proofs.YtgopljllknbelaaGreatDoor
/- The text of a printed tree is divided into the tree's tokens. Plain. -/
namespace Go.Proofs.YtgopljllknbelaaGreatDoor
namespace Big
def tkS (t : List UInt8) : Tok := ⟨3, 0, t⟩
def parW (b : Bool) (g : Nat) (q : Nat → List (Nat × Tok)) : List (Nat × Tok) := if b then (g, tkS [40]) :: (q 0 ++ [(0, tkS [41])]) else q g
def pcN (n : Int) : List (Nat × Tok) := if n < 0 then [(0, tkS [45]), (0, ⟨1, 0, dec n.natAbs⟩)] else [(0, ⟨1, 0, dec n.natAbs⟩)]
/-- The tokens of a printed tree with the spaces ahead of each. -/
def pcs : Ex → Nat → List (Nat × Tok)
  | .leaf k t, g => if k = 3 then [(g, ⟨2, 0, [112, 105]⟩)] else if k = 4 then [(g, ⟨2, 0, [101]⟩)] else [(g, ⟨k, 0, t⟩)]
  | .un k n x, g => if k = 5 then (g, tkS [45]) :: parW (decide (levelK x.kind < 3)) 0 (pcs x)
      else if k = 10 then parW (decide (levelK x.kind < 5)) g (pcs x) ++ ((0, tkS [94]) :: pcN n)
      else (g, ⟨2, 0, funcT k⟩) :: (0, tkS [40]) :: (pcs x 0 ++ [(0, tkS [41])])
  | .bin k x y, g => parW (decide (levelK x.kind < levelK k)) g (pcs x) ++ ((1, tkS (sgnT k)) :: parW (decide (levelK y.kind < levelK k + 1)) 1 (pcs y))
theorem parW_map (b : Bool) (g : Nat) (q : Nat → List (Nat × Tok)) (l : List (Nat × List UInt8)) (h : ∀ g, (q g).map (fun p => ktT p.2) = l) : (parW b g q).map (fun p => ktT p.2) = KP b l := by
  unfold parW KP
  cases b
  · exact h g
  · simp only [if_true, List.map_cons, List.map_append, h]
    rfl
theorem pcs_map (e : Ex) : ∀ g, (pcs e g).map (fun p => ktT p.2) = KE e := by
  induction e with
  | leaf k t =>
    intro g
    unfold pcs KE
    split
    · rfl
    · split <;> rfl
  | un k n x ih =>
    intro g
    unfold pcs KE
    split
    · rw [List.map_cons, parW_map _ _ _ _ ih]; rfl
    · split
      · rw [List.map_append, List.map_cons, parW_map _ _ _ _ ih]
        unfold pcN KN
        split <;> rfl
      · rw [List.map_cons, List.map_cons, List.map_append, ih]; rfl
  | bin k x y ihx ihy =>
    intro g
    unfold pcs KE
    rw [List.map_append, List.map_cons, parW_map _ _ _ _ ihx, parW_map _ _ _ _ ihy]; rfl
theorem rend_append (a b : List (Nat × Tok)) : rend 0 (a ++ b) = rend 0 a ++ rend 0 b := by
  induction a with
  | nil => rfl
  | cons p a ih =>
    obtain ⟨g, t⟩ := p
    rw [List.cons_append, rend, rend, ih]
    simp only [List.append_assoc]
theorem parW_rend (b : Bool) (g : Nat) (q : Nat → List (Nat × Tok)) (s : List UInt8) (h : ∀ g, rend 0 (q g) = List.replicate g 32 ++ s) : rend 0 (parW b g q) = List.replicate g 32 ++ parenT b s := by
  unfold parW parenT
  cases b
  · exact h g
  · simp only [if_true]
    rw [rend, rend_append, h]
    simp [tkS, rend]
theorem pcs_rend (e : Ex) (hg : e.Good) : ∀ g, rend 0 (pcs e g) = List.replicate g 32 ++ nodeT fmtI e := by
  induction e with
  | leaf k t =>
    intro g
    unfold pcs nodeT
    split
    · simp [rend]
    · split <;> simp [rend]
  | un k n x ih =>
    intro g
    unfold pcs nodeT
    split
    · rw [rend, parW_rend _ _ _ _ (ih hg.2.2.2.2)]; simp [tkS]
    · split
      · rw [rend_append, parW_rend _ _ _ _ (ih hg.2.2.2.2), rend]
        have hp : rend 0 (pcN n) = fmtI n := by
          unfold pcN fmtI
          split
          · simp [rend, tkS]
          · simp [rend]
        rw [hp]
        simp [tkS]
      · rw [rend, rend, rend_append, ih hg.2.2.2.2]
        simp [tkS, rend]
  | bin k x y ihx ihy =>
    intro g
    unfold pcs nodeT
    rw [rend_append, parW_rend _ _ _ _ (ihx hg.2.1), rend, parW_rend _ _ _ _ (ihy hg.2.2)]
    have hs : signT k = 32 :: (sgnT k ++ [32]) := by
      unfold signT sgnT
      (repeat' split) <;> rfl
    rw [hs]
    simp [tkS]
theorem fine_sign (c : UInt8) (h : signN c.toNat = true) : TokFine (tkS [c]) := .inr (.inr ⟨rfl, c, rfl, h⟩)
theorem RendOk.single {g : Nat} {t : Tok} (h : TokFine t) : RendOk [(g, t)] := h
/-- Two lists with a sign between them. -/
theorem RendOk.glue {g : Nat} {s : Tok} {b : List (Nat × Tok)} (hs : TokFine s) (hk : s.kind = 3) (hb : b = [] ∨ RendOk b) : ∀ a : List (Nat × Tok), (a = [] ∨ RendOk a) → RendOk (a ++ (g, s) :: b) := by
  have h0 : RendOk ((g, s) :: b) := by
    cases b with
    | nil => exact hs
    | cons p b =>
      obtain ⟨g', u⟩ := p
      exact ⟨hs, .inr (.inl hk), hb.resolve_left (by simp)⟩
  intro a
  induction a with
  | nil => intro _; exact h0
  | cons p a ih =>
    obtain ⟨g', t⟩ := p
    intro ha
    have ha := ha.resolve_left (by simp)
    cases a with
    | nil => exact ⟨ha, .inr (.inr hk), h0⟩
    | cons q a =>
      obtain ⟨g2, u⟩ := q
      exact ⟨ha.1, ha.2.1, ih (.inr ha.2.2)⟩
theorem parW_ok (b : Bool) (g : Nat) (q : Nat → List (Nat × Tok)) (h : ∀ g, RendOk (q g)) : RendOk (parW b g q) := by
  unfold parW
  cases b
  · exact h g
  · simp only [if_true]
    exact RendOk.glue (fine_sign 40 (by decide)) rfl (.inr (RendOk.glue (fine_sign 41 (by decide)) rfl (.inl rfl) _ (.inr (h 0)))) [] (.inl rfl)
theorem dec_fine : ∀ n : Fin 65, code7 (dec n.val) = 0 ∧ runLen numN (dec n.val) = (dec n.val).length ∧ digN ((dec n.val).getD 0 0).toNat = true ∧ 1 ≤ (dec n.val).length := by decide +kernel
theorem funcT_fine : ∀ k : Fin 17, runLen wordN (funcT k.val) = (funcT k.val).length ∧ letN ((funcT k.val).getD 0 0).toNat = true ∧ 1 ≤ (funcT k.val).length ∧ (funcT k.val).length ≤ 24 := by decide +kernel
theorem all_runLen (p : Nat → Bool) (l : List UInt8) (h : l.all (fun c => p c.toNat) = true) : runLen p l = l.length := by
  induction l with
  | nil => rfl
  | cons c t ih =>
    rw [List.all_cons, Bool.and_eq_true] at h
    rw [runLen, if_pos h.1, ih h.2]; rfl
theorem name_fine {t : List UInt8} (h : nameB t = true) : TokFine ⟨2, 0, t⟩ := by
  have h2 := (Bool.and_eq_true_iff.1 h).1
  unfold wordB at h2
  simp only [Bool.and_eq_true, decide_eq_true_eq] at h2
  refine .inr (.inl ⟨rfl, all_runLen _ _ h2.2, h2.1.2, ?_, h2.1.1.2⟩)
  cases t with
  | nil => have := h2.1.1.1; revert this; decide
  | cons c r => simp
theorem isDig_num {c : UInt8} (h : isDig c = true) : digN c.toNat = true ∧ numN c.toNat = true := by
  have hall : ∀ n : Fin 256, isDig (UInt8.ofNat n.val) = true → digN n.val = true ∧ numN n.val = true := by decide +kernel
  have h1 := hall ⟨c.toNat, UInt8.toNat_lt c⟩
  rw [UInt8.ofNat_toNat] at h1
  exact h1 h
theorem code7_fine {t : List UInt8} (h : code7 t = 0) (a : Nat) : TokFine ⟨1, a, t⟩ := by
  have hg : good7 t = true := by
    unfold code7 at h
    split at h
    · cases h
    · split at h
      · assumption
      · cases h
  unfold good7 at hg
  rw [Bool.and_eq_true] at hg
  obtain ⟨h1, h2⟩ := hg
  rw [List.all_append, Bool.and_eq_true] at h2
  have hw : whole t ≠ [] := by
    intro he
    have : bad7 t = true := by unfold bad7; rw [he]; simp
    rw [this] at h1
    cases h1
  have hall : t.all (fun c => numN c.toNat) = true := by
    have hW : (whole t).all (fun c => numN c.toNat) = true := by
      rw [List.all_eq_true] at h2 ⊢
      exact fun c hc => (isDig_num (h2.1 c hc)).2
    have hP : (part t).all (fun c => numN c.toNat) = true := by
      have h3 := h2.2
      rw [List.all_eq_true] at h3 ⊢
      exact fun c hc => (isDig_num (h3 c hc)).2
    rcases dot_split t with ⟨_, h3⟩ | ⟨_, h3, _⟩
    · rw [h3, List.all_append, List.all_cons, hW, hP]
      decide
    · rw [h3]; exact hW
  have hhead : digN (t.getD 0 0).toNat = true ∧ 1 ≤ t.length := by
    cases hwt : whole t with
    | nil => exact absurd hwt hw
    | cons c r =>
      have hc : isDig c = true := by
        have h3 := h2.1
        rw [hwt, List.all_cons, Bool.and_eq_true] at h3
        exact h3.1
      rcases dot_split t with ⟨_, h3⟩ | ⟨_, h3, _⟩
      · rw [hwt] at h3
        rw [h3]
        exact ⟨(isDig_num hc).1, by simp⟩
      · rw [hwt] at h3
        rw [h3]
        exact ⟨(isDig_num hc).1, by simp⟩
  exact .inl ⟨rfl, h, all_runLen _ _ hall, hhead.1, hhead.2⟩
theorem pcs_ok (e : Ex) (hg : e.Good) : ∀ g, RendOk (pcs e g) := by
  induction e with
  | leaf k t =>
    intro g
    unfold pcs
    split
    · exact RendOk.single (.inr (.inl ⟨rfl, by decide, by decide, by decide, by decide⟩))
    · split
      · exact RendOk.single (.inr (.inl ⟨rfl, by decide, by decide, by decide, by decide⟩))
      · rcases hg with ⟨rfl, h, _⟩ | ⟨rfl, h⟩ | ⟨h, _⟩
        · exact RendOk.single (code7_fine h 0)
        · exact RendOk.single (name_fine h)
        · omega
  | un k n x ih =>
    intro g
    have hx := ih hg.2.2.2.2
    unfold pcs
    split
    · exact RendOk.glue (fine_sign 45 (by decide)) rfl (.inr (parW_ok _ _ _ hx)) [] (.inl rfl)
    · split
      · have hr1 : -64 ≤ n := hg.2.2.1
        have hr2 : n ≤ 64 := hg.2.2.2.1
        obtain ⟨d1, d2, d3, d4⟩ := dec_fine ⟨n.natAbs, by omega⟩
        have hd : TokFine ⟨1, 0, dec n.natAbs⟩ := .inl ⟨rfl, d1, d2, d3, d4⟩
        refine RendOk.glue (fine_sign 94 (by decide)) rfl (.inr ?_) _ (.inr (parW_ok _ _ _ hx))
        unfold pcN
        split
        · exact RendOk.glue (fine_sign 45 (by decide)) rfl (.inr (RendOk.single hd)) [] (.inl rfl)
        · exact RendOk.single hd
      · rename_i h5 h10
        have hk : 11 ≤ k ∧ k ≤ 16 := by have := hg.1; omega
        obtain ⟨d1, d2, d3, d4⟩ := funcT_fine ⟨k, by omega⟩
        have hd : TokFine ⟨2, 0, funcT k⟩ := .inr (.inl ⟨rfl, d1, d2, d3, d4⟩)
        have h1 : RendOk ([(g, (⟨2, 0, funcT k⟩ : Tok))] ++ (0, tkS [40]) :: (pcs x 0 ++ [(0, tkS [41])])) :=
          RendOk.glue (fine_sign 40 (by decide)) rfl (.inr (RendOk.glue (fine_sign 41 (by decide)) rfl (.inl rfl) _ (.inr (hx 0)))) _ (.inr (RendOk.single hd))
        exact h1
  | bin k x y ihx ihy =>
    intro g
    unfold pcs
    have hs : TokFine (tkS (sgnT k)) := by
      unfold sgnT
      (repeat' split)
      · exact fine_sign 43 (by decide)
      · exact fine_sign 45 (by decide)
      · exact fine_sign 42 (by decide)
      · exact fine_sign 47 (by decide)
    exact RendOk.glue hs rfl (.inr (parW_ok _ _ _ (ihy hg.2.2))) _ (.inr (parW_ok _ _ _ (ihx hg.2.1)))
end Big
end Go.Proofs.YtgopljllknbelaaGreatDoor
