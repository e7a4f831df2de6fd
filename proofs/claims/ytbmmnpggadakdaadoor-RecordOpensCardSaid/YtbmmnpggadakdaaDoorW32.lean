import Derived.Test.YtbmmnpggadakdaaDoorW31
import Derived.Test.YtbmmnpggadakdaaDoorShelf
/- strconv.ParseUint in base 16, decimal.Unhex. -/
namespace Go.Proofs.YtbmmnpggadakdaaDoor
namespace Big
open Go.RowKit

/-- A variable of the library's that holds an error. -/
def ErrVar (w : World) (g : Nat) : Prop := ∃ ev, w.cell? ⟨g, 0, none⟩ = some ev ∧ (ev = .nilIface ∨ ∃ te pe, ev = .iface te pe)
theorem ErrVar.ext {w w' : World} {g : Nat} (h : ErrVar w g) (hx : Ext w w') : ErrVar w' g := by
  obtain ⟨ev, h1, h2⟩ := h
  exact ⟨ev, hx.keep h1, h2⟩
def ErrVars (w : World) : Prop := ErrVar w 2 ∧ ErrVar w 3
theorem ErrVars.ext {w w' : World} (h : ErrVars w) (hx : Ext w w') : ErrVars w' := ⟨h.1.ext hx, h.2.ext hx⟩

def PuPub (w0 : World) (r : Option Nat) (e : Ending) (w' : World) : Prop :=
  Ext w0 w' ∧ ((∃ h : Nat, r = some h ∧ e = .returned (.tuple #[.int .u64 (h : Int), .nilIface])) ∨
    (r = none ∧ ∃ (u : Int) (t : TypeId) (v : Value), e = .returned (.tuple #[.int .u64 u, .iface t v])))

theorem pu_any (w : World) (l : List UInt8) (hl : l.length ≤ 1073741824) (hE : ErrVars w) :
    Calls Tryd.prog 50 #[str l, .int .i64 16, .int .i64 64] w (PuPub w (pu16 l)) := by
  have HP := Lib.hid (fun W => ipu_any W l hl)
  have HE := Lib.hid hE
  have HL := Lib.hid (show (⟨l.toArray⟩ : ByteArray).size ≤ 281474976710656 by rw [size_str]; omega)
  clear hE hl
  generalize pu16 l = r at *
  go_enter Tryd.func50, Tryd.ntmps50
  go_wp2_with fail
  refine (HP.out _).mono ?_
  rintro e w1 ⟨hx, h⟩
  have HX := Lib.hid hx
  clear hx
  rcases h with ⟨h, hr, rfl⟩ | ⟨hr, u, k, hk, rfl⟩
  · have HR := Lib.hid hr
    clear hr
    go_wp2_with fail
    go_ret2
    exact ⟨HX.out, .inl ⟨h, HR.out, rfl⟩⟩
  · have HR := Lib.hid hr
    clear hr
    rcases hk with rfl | rfl
    · obtain ⟨ev, hv, hev⟩ := (HE.out.ext HX.out).2
      have HV := Lib.hid hv
      have HEV := Lib.hid hev
      clear hv hev
      go_wp2_with fail
      refine (Tryd.strconv_toError_range _ _ _ _ ev _ HL.out HV.out HEV.out).mono ?_
      rintro e w2 ⟨N, rfl, _, _, hb⟩
      have HB := Lib.hid (show Ext w w2 from HX.out.trans hb)
      clear hb
      go_wp2_with fail
      go_ret2
      exact ⟨HB.out, .inr ⟨HR.out, _, _, _, rfl⟩⟩
    · obtain ⟨ev, hv, hev⟩ := (HE.out.ext HX.out).1
      have HV := Lib.hid hv
      have HEV := Lib.hid hev
      clear hv hev
      go_wp2_with fail
      refine (Tryd.strconv_toError_syntax _ _ _ _ ev _ HL.out HV.out HEV.out).mono ?_
      rintro e w2 ⟨N, rfl, _, _, hb⟩
      have HB := Lib.hid (show Ext w w2 from HX.out.trans hb)
      clear hb
      go_wp2_with fail
      go_ret2
      exact ⟨HB.out, .inr ⟨HR.out, _, _, _, rfl⟩⟩

theorem unhex_any (w : World) (l : List UInt8) (hl : l.length ≤ 1073741824) (hT : Tab16 w) (hE : ErrVars w) :
    Calls Tryd.prog 34 #[str l] w fun e w' => e = .returned (.tuple #[.int .u64 ((unhexS l).1 : Int), .int .i64 ((unhexS l).2 : Int)]) ∧ Ext w w' := by
  have HP := Lib.hid (fun W hx => pu_any W l hl (hE.ext hx))
  have HT := Lib.hid hT
  have HU := Lib.hid (show (∃ h, pu16 l = some h ∧ h < 18446744073709551616 ∧ ((hex16 h = l ∧ unhexS l = (h, 0)) ∨ (hex16 h ≠ l ∧ unhexS l = (0, 6)))) ∨ (pu16 l = none ∧ unhexS l = (0, 6)) by
    cases hp : pu16 l with
    | none => exact .inr ⟨rfl, unhex_none hp⟩
    | some h =>
      have hlt := pu16_lt hp
      by_cases he : hex16 h = l
      · exact .inl ⟨h, rfl, hlt, .inl ⟨he, unhex_ok hp hlt he⟩⟩
      · exact .inl ⟨h, rfl, hlt, .inr ⟨he, unhex_bad hp he⟩⟩)
  clear hT hE hl
  generalize pu16 l = r at *
  generalize unhexS l = q at *
  go_enter Tryd.func34, Tryd.ntmps34
  go_wp2_with fail
  refine (HP.out _ (Ext.refl w)).mono ?_
  rintro e w1 ⟨hx, h⟩
  have HX := Lib.hid hx
  clear hx
  rcases h with ⟨h, hr, rfl⟩ | ⟨hr, u, t, v, rfl⟩
  · subst hr
    have HU2 := Lib.hid (show h < 18446744073709551616 ∧ ((hex16 h = l ∧ q = (h, 0)) ∨ (hex16 h ≠ l ∧ q = (0, 6))) by
      rcases HU.out with ⟨h', h1, h2⟩ | ⟨h1, _⟩
      · injection h1 with h1; subst h1; exact h2
      · cases h1)
    have HH := Lib.hid (fun W hT => hex_any W h HU2.out.1 hT)
    clear HU
    rcases HU2.out.2 with ⟨h1, rfl⟩ | ⟨h1, rfl⟩
    · rw [h1] at HH
      clear h1
      go_wp2_with fail
      refine (HH.out _ (HT.out.ext HX.out)).mono ?_
      rintro e w2 ⟨rfl, hx2⟩
      have HX2 := Lib.hid (HX.out.trans hx2)
      clear hx2
      go_wp2_with fail
      go_ret2
      exact ⟨rfl, HX2.out⟩
    · have hb : (hex16 h == l) = false := by rw [beq_eq_false_iff_ne]; exact h1
      clear h1
      generalize hex16 h = hl at *
      go_wp2_with fail
      refine (HH.out _ (HT.out.ext HX.out)).mono ?_
      rintro e w2 ⟨rfl, hx2⟩
      have HX2 := Lib.hid (HX.out.trans hx2)
      clear hx2
      go_wp2_with fail
      go_ret2
      exact ⟨rfl, HX2.out⟩
  · subst hr
    have hq : q = (0, 6) := by
      rcases HU.out with ⟨h', h1, _⟩ | ⟨_, h1⟩
      · cases h1
      · exact h1
    subst hq
    clear HU
    go_wp2_with fail
    go_ret2
    exact ⟨rfl, HX.out⟩
end Big
end Go.Proofs.YtbmmnpggadakdaaDoor
