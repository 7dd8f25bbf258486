/- This text proves that the parcel's laws are awake, over the loaded program. -/
import Derived.Test.YtgdbpicelnoacaaDoorDec5
import Derived.Test.YtgdbpicelnoacaaDoorRefSame
namespace Go.Proofs.YtgdbpicelnoacaaDoor
open Go.RowKit Go.WideShapes
set_option linter.unusedSimpArgs false

/-- Encode of a packet that can be. -/
theorem enc_good (A : Nat → Addr) (p : Par) (w : World) (h : p.ok w) (hG : Glob w A) (hg : p.good = true) : Calls Tryd.prog 39 #[p.v] w fun e w' => e = .returned (.tuple #[.string (strB (encP p)), .nilIface]) ∧ Below w.heap.size w w' :=
  (enc_any A p w h hG).mono fun e w' ⟨hb, h⟩ => by
    rcases h with ⟨_, h⟩ | ⟨h, _⟩
    · exact ⟨h, hb⟩
    · rw [hg] at h; cases h
theorem enc_bad (A : Nat → Addr) (p : Par) (w : World) (h : p.ok w) (hG : Glob w A) (hg : p.good = false) : Calls Tryd.prog 39 #[p.v] w fun e w' => (∃ v, e = .returned (.tuple #[.string ⟨#[]⟩, v]) ∧ WrapsT w' v (A 1)) ∧ Below w.heap.size w w' :=
  (enc_any A p w h hG).mono fun e w' ⟨hb, h⟩ => by
    rcases h with ⟨h, _⟩ | ⟨_, h⟩
    · rw [hg] at h; cases h
    · exact ⟨h, hb⟩
theorem strB_list (l : List UInt8) : (strB l).data.toList = l := by simp [strB]
/-- Decode of what was written. -/
theorem dec_back (A : Nat → Addr) (p : Par) (w : World) (hA : Apart 5 w A) (hg : p.good = true) (hs : 0 ≤ p.sum ∧ p.sum < 18446744073709551616) : Calls Tryd.prog 42 #[.string (strB (encP p))] w fun e w' => (∃ X c, e = .returned (.tuple #[(p.flds.par p.kind X c).v, .nilIface]) ∧ Cells w' X (iv p.ins)) ∧ Below w.heap.size w w' := by
  have hl := encP_short hg
  have D := dec_any A (strB (encP p)) w hA (by rw [strB_size]; omega)
  rw [strB_list] at D
  refine D.mono fun e w' ⟨hb, h⟩ => ?_
  obtain ⟨h1, h2⟩ := decQ_enc hg hs
  rcases h with ⟨_, X, c, he, hc, _⟩ | ⟨h, _⟩
  · rw [h1, h2] at he
    rw [h1] at hc
    exact ⟨⟨X, c, he, hc⟩, hb⟩
  · rw [(dec_enc hg hs).1] at h; cases h
/-- Decode of bytes that are none. -/
theorem dec_none (A : Nat → Addr) (s : ByteArray) (w : World) (hA : Apart 5 w A) (hm : s.size ≤ 100000) (j : Nat) (hd : decErr s.data.toList = some j) : Calls Tryd.prog 42 #[.string s] w fun e w' => (∃ v, e = .returned (.tuple #[ZV, v]) ∧ WrapsT w' v (A j)) ∧ Below w.heap.size w w' :=
  (dec_any A s w hA hm).mono fun e w' ⟨hb, h⟩ => by
    rcases h with ⟨h, _⟩ | ⟨_, v, he, hw⟩
    · unfold decOk at h
      rw [hd] at h
      cases h
    · rw [hd] at hw
      exact ⟨⟨v, he, hw⟩, hb⟩

def p7 : Par := ⟨1, 7, 0, 0, [], 0, 0, none, 0⟩
theorem p7_good : p7.good = true := by decide
theorem p7_enc : encP p7 = [80, 1, 7, 14, 248, 203, 122] := by decide +kernel
theorem p7_x : decErr [80, 1, 7, 14, 248, 203, 122, 120] = some 4 := by decide +kernel
theorem p7_x' : decErr ((⟨#[80, 1, 7, 14, 248, 203, 122]⟩ : ByteArray) ++ (⟨#[120]⟩ : ByteArray)).data.toList = some 4 := by
  have e : ((⟨#[80, 1, 7, 14, 248, 203, 122]⟩ : ByteArray) ++ (⟨#[120]⟩ : ByteArray)).data.toList = [80, 1, 7, 14, 248, 203, 122, 120] := by simp
  rw [e]; exact p7_x
def p0 : Par := ⟨0, 0, 0, 0, [], 0, 0, none, 0⟩
theorem p0_bad : p0.good = false := by decide
theorem p7_ok (w : World) : p7.ok w := ⟨⟨by decide, by decide⟩, ⟨by decide, by decide⟩, ⟨by decide, by decide⟩, ⟨by decide, by decide⟩, ⟨by decide, by decide⟩, by decide, by decide, by simp [p7], Cells.nil _ _⟩
theorem p0_ok (w : World) : p0.ok w := ⟨⟨by decide, by decide⟩, ⟨by decide, by decide⟩, ⟨by decide, by decide⟩, ⟨by decide, by decide⟩, ⟨by decide, by decide⟩, by decide, by decide, by simp [p0], Cells.nil _ _⟩

set_option maxRecDepth 100000 in
set_option maxHeartbeats 6400000 in
theorem awake24_any (A : Nat → Addr) (w : World) (hA : Apart 5 w A) : Calls Tryd.prog 38 #[] w fun e w' => e = .returned (.bool true) ∧ Below w.heap.size w w' := by
  have AA := Lib.hid hA
  clear hA
  have E7 := Lib.hid (fun w' (hA : Apart 5 w' A) => enc_good A p7 w' (p7_ok w') (hA.glob (by decide)) p7_good)
  have D7 := Lib.hid (fun w' (hA : Apart 5 w' A) => dec_back A p7 w' hA p7_good (by decide))
  have DX := Lib.hid (fun w' (hA : Apart 5 w' A) => dec_none A ((⟨#[80, 1, 7, 14, 248, 203, 122]⟩ : ByteArray) ++ (⟨#[120]⟩ : ByteArray)) w' hA (by decide) 4 p7_x')
  have E0 := Lib.hid (fun w' (hA : Apart 5 w' A) => enc_bad A p0 w' (p0_ok w') (hA.glob (by decide)) p0_bad)
  have RS := Lib.hid (fun (X : Option Addr) (c : Nat) (w' : World) (hc : Cells w' X (iv [])) => rsame_any (p7.flds.par p7.kind X c) p7 w' hc (Cells.nil _ _) (Nat.zero_le _))
  rw [p7_enc] at E7 D7
  have hs : strB [80, 1, 7, 14, 248, 203, 122] = ⟨#[80, 1, 7, 14, 248, 203, 122]⟩ := rfl
  rw [hs] at E7 D7
  clear hs
  unfold Par.v Flds.par Par.flds p7 p0 at *
  dsimp only at *
  go_enter Tryd.func38, Tryd.ntmps38
  go_wp2_with fail
  refine (E7.out _ AA.out).mono ?_
  rintro e w1 ⟨rfl, hb1⟩
  have B1 := Lib.hid hb1
  have A1 := Lib.hid (AA.out.below hb1)
  clear hb1
  go_wp2_with fail
  refine (D7.out _ A1.out).mono ?_
  rintro e w2 ⟨⟨X, c, rfl, hc⟩, hb2⟩
  have B2 := Lib.hid (B1.out.trans (hb2.mono B1.out.size))
  have A2 := Lib.hid (A1.out.below hb2)
  have C2 := Lib.hid hc
  clear hb2 hc
  have al := (Below.refl w2.heap.size w2).alloc (Nat.le_refl _) (.cells #[.int .i64 1, .int .i64 7, .int .i64 0, .int .i64 0, .slice X 0 c, .int .i64 0, .int .u64 0] 61)
  have A3 := Lib.hid (A2.out.below al)
  have B3 := Lib.hid (B2.out.trans (al.mono B2.out.size))
  have X3 := Lib.hid (heap_alloc_new w2 (.cells #[.int .i64 1, .int .i64 7, .int .i64 0, .int .i64 0, .slice X 0 c, .int .i64 0, .int .u64 0] 61))
  have C3 := Lib.hid (C2.out.below al)
  clear al
  go_wp2_with fail
  refine (DX.out _ A3.out).mono ?_
  rintro e w3 ⟨⟨v, rfl, hv⟩, hb3⟩
  have al := (Below.refl w3.heap.size w3).alloc (Nat.le_refl _) (.cells #[.int .i64 0, .int .i64 0, .int .i64 0, .int .i64 0, .slice none 0 0, .int .i64 0, .int .u64 0] 61)
  have hb4 := hb3.trans (al.mono hb3.size)
  have A4 := Lib.hid (A3.out.below hb4)
  have B4 := Lib.hid (B3.out.trans (hb4.mono B3.out.size))
  have X4 := Lib.hid ((hb4.block _ (Array.getElem?_eq_some_iff.1 X3.out).1).trans X3.out)
  have C4 := Lib.hid (C3.out.below hb4)
  have V4 := Lib.hid (hv.below al)
  clear al hb3 hb4 hv
  unfold ZV
  go_wp2_with fail
  refine (E0.out _ A4.out).mono ?_
  rintro e w5 ⟨⟨u, rfl, hu⟩, hb5⟩
  have A5 := Lib.hid (A4.out.below hb5)
  have B5 := Lib.hid (B4.out.trans (hb5.mono B4.out.size))
  have x5 := (hb5.block _ (Array.getElem?_eq_some_iff.1 X4.out).1).trans X4.out
  obtain ⟨⟨d0, -⟩, ⟨d1, -⟩, ⟨d2, -⟩, ⟨d3, -⟩, ⟨d4, -⟩, ⟨d5, -⟩, ⟨d6, -⟩⟩ := cells7 x5
  have S5 := Lib.hid (RS.out X c w5 (C4.out.below hb5))
  have hv5 := V4.out.below hb5
  have IV := Lib.hid (fun w' (hb : Below w5.heap.size w5 w') => (hv5.below hb).is)
  have IU := Lib.hid (fun w' (hb : Below w5.heap.size w5 w') => (hu.below hb).is)
  obtain ⟨bv, Cv, rfl, -, -⟩ := hv5
  obtain ⟨bu, Cu, rfl, -, -⟩ := hu
  clear hb5 x5
  have qs : ((⟨#[80, 1, 7, 14, 248, 203, 122]⟩ : ByteArray).extract 0 3).toList = [80, 1, 7] := by kernel_rfl
  go_wp2_with fail
  refine S5.out.mono ?_
  rintro e w6 ⟨rfl, hb6⟩
  have HB := Lib.hid hb6
  have g4 := ((A5.out.below hb6).1 4 (by decide)).1
  have g1 := ((A5.out.below hb6).1 1 (by decide)).1
  have B6 := Lib.hid (B5.out.trans (hb6.mono B5.out.size))
  have SM : Hid ((⟨1, 7, 0, 0, [], 0, 0, X, c⟩ : Par).same ⟨1, 7, 0, 0, [], 0, 0, none, 0⟩ = true) := Lib.hid rfl
  rw [SM.out]
  clear hb6
  go_wp2_with fail
  refine (IV.out _ HB.out).mono ?_
  rintro e w7 ⟨rfl, rfl⟩
  go_wp2_with fail
  refine (IU.out _ HB.out).mono ?_
  rintro e w7 ⟨rfl, rfl⟩
  go_wp2_with fail
  go_ret
  exact ⟨rfl, B6.out⟩

end Go.Proofs.YtgdbpicelnoacaaDoor
