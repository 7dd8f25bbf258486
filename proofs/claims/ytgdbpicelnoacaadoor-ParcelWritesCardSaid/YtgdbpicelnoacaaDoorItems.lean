/- This text proves what the strand's laws do with an item, over the loaded program: they put it. -/
import Derived.Test.YtgdbpicelnoacaaDoorReader5
namespace Go.Proofs.YtgdbpicelnoacaaDoor
open Go.RowKit Go.WideShapes

/-- An item, and where its flags lie. -/
structure It where
  kind : Int
  n : Int
  text : ByteArray
  fl : List Bool
  X : Option Addr
  c : Nat
def It.v (i : It) : Value := .agg #[.int .i64 i.kind, .int .i64 i.n, .string i.text, .slice i.X i.fl.length i.c]
def It.cs (i : It) : Array Value := #[.int .i64 i.kind, .int .i64 i.n, .string i.text, .slice i.X i.fl.length i.c]
def In64 (n : Int) : Prop := -9223372036854775808 ≤ n ∧ n ≤ 9223372036854775807
def It.ok (w : World) (i : It) : Prop := In64 i.kind ∧ In64 i.n ∧ i.text.size ≤ 1000000 ∧ i.fl.length ≤ 100000 ∧ Cells w i.X (i.fl.map Value.bool)
theorem It.ok.below {w w' : World} {i : It} (h : i.ok w) (hb : Below w.heap.size w w') : i.ok w' := ⟨h.1, h.2.1, h.2.2.1, h.2.2.2.1, h.2.2.2.2.below hb⟩

/-- What a writer holds once an item is put. -/
def Wri.item (W : Wri) (i : It) : Wri :=
  if i.kind = 1 then W.byte i.n else if i.kind = 2 then W.count i.n else if i.kind = 3 then W.put (groupsL (zig i.n)) else
  if i.kind = 4 then W.put (textL i.text) else if i.kind = 5 then W.put (groupsL (i.n % 4294967296).toNat) else if i.kind = 6 then W.put (flagsL i.fl) else W

section
variable {A : Nat → Addr} {w : World} {wb : Nat} {gp : List Nat} {W : Wri}

set_option maxRecDepth 100000 in
set_option maxHeartbeats 3200000 in
theorem put_any (h : WAt A w wb gp W) (hok : W.ok) (hG : Glob w A) (i : It) (hi : i.ok w) :
    Calls Tryd.prog 17 #[.pointer (some ⟨wb, 0, none⟩), i.v] w (WDone A w wb gp (W.item i)) := by
  obtain ⟨kind, n, text, fl, X, c⟩ := i
  obtain ⟨hk, hn, ht, hf, hC⟩ := hi
  have hal := (Below.refl w.heap.size w).alloc (Nat.le_refl _) (.cells #[.int .i64 kind, .int .i64 n, .string text, .slice X fl.length c] 30)
  dsimp only at hk hn ht hf hC
  unfold Wri.item It.v
  dsimp only
  by_cases k1 : kind = 1
  · have R := Lib.hid (byte_any (h.below hal) hok (hG.below hal) n)
    have HA := Lib.hid hal
    subst k1
    rw [if_pos rfl]
    clear h hG hC hal hk hn ht hf
    go_enter Tryd.func17, Tryd.ntmps17
    go_wp2_with fail
    refine R.out.mono ?_
    rintro e w1 ⟨rfl, hl⟩
    have F := Lib.hid (WLeft.ahead HA.out hl)
    clear hl
    go_wp2
    go_end0
    exact ⟨rfl, F.out⟩
  rw [if_neg k1]
  by_cases k2 : kind = 2
  · have R := Lib.hid (count_any (h.below hal) hok (hG.below hal) n hn.2)
    have HA := Lib.hid hal
    subst k2
    rw [if_pos rfl]
    clear h hG hC hal hk hn ht hf k1
    go_enter Tryd.func17, Tryd.ntmps17
    go_wp2_with fail
    refine R.out.mono ?_
    rintro e w1 ⟨rfl, hl⟩
    have F := Lib.hid (WLeft.ahead HA.out hl)
    clear hl
    go_wp2
    go_end0
    exact ⟨rfl, F.out⟩
  rw [if_neg k2]
  by_cases k3 : kind = 3
  · have R := Lib.hid (num_any (h.below hal) hok (hG.below hal) n hn.1 hn.2)
    have HA := Lib.hid hal
    subst k3
    rw [if_pos rfl]
    clear h hG hC hal hk hn ht hf k1 k2
    go_enter Tryd.func17, Tryd.ntmps17
    go_wp2_with fail
    refine R.out.mono ?_
    rintro e w1 ⟨rfl, hl⟩
    have F := Lib.hid (WLeft.ahead HA.out hl)
    clear hl
    go_wp2
    go_end0
    exact ⟨rfl, F.out⟩
  rw [if_neg k3]
  by_cases k4 : kind = 4
  · have R := Lib.hid (text_any (h.below hal) hok (hG.below hal) text ht)
    have HA := Lib.hid hal
    subst k4
    rw [if_pos rfl]
    clear h hG hC hal hk hn ht hf k1 k2 k3
    go_enter Tryd.func17, Tryd.ntmps17
    go_wp2_with fail
    refine R.out.mono ?_
    rintro e w1 ⟨rfl, hl⟩
    have F := Lib.hid (WLeft.ahead HA.out hl)
    clear hl
    go_wp2
    go_end0
    exact ⟨rfl, F.out⟩
  rw [if_neg k4]
  by_cases k5 : kind = 5
  · obtain ⟨m, hm⟩ : ∃ m, (n % 4294967296).toNat = m := ⟨_, rfl⟩
    rw [hm]
    have R := Lib.hid (bits_any (h.below hal) hok (hG.below hal) m (by omega))
    have HA := Lib.hid hal
    have e5 : IntKind.u32.wrap n = (m : Int) := by
      have e : ∀ x, IntKind.u32.wrap x = x % 4294967296 := fun x => by simp [IntKind.wrap, IntKind.signed, IntKind.bits]
      rw [e]; omega
    clear hm
    subst k5
    rw [if_pos rfl]
    clear h hG hC hal hk hn ht hf k1 k2 k3 k4
    go_enter Tryd.func17, Tryd.ntmps17
    go_wp2_with fail
    refine R.out.mono ?_
    rintro e w1 ⟨rfl, hl⟩
    have F := Lib.hid (WLeft.ahead HA.out hl)
    clear hl
    go_wp2
    go_end0
    exact ⟨rfl, F.out⟩
  rw [if_neg k5]
  by_cases k6 : kind = 6
  · have R := Lib.hid (flags_any (h.below hal) hok (hG.below hal) X c fl (hC.below hal) hf)
    have HA := Lib.hid hal
    subst k6
    rw [if_pos rfl]
    clear h hG hC hal hk hn ht hf k1 k2 k3 k4 k5
    go_enter Tryd.func17, Tryd.ntmps17
    go_wp2_with fail
    refine R.out.mono ?_
    rintro e w1 ⟨rfl, hl⟩
    have F := Lib.hid (WLeft.ahead HA.out hl)
    clear hl
    go_wp2
    go_end0
    exact ⟨rfl, F.out⟩
  rw [if_neg k6]
  have F := Lib.hid (WLeft.ahead hal (WLeft.same (h.below hal) (Below.refl _ _)))
  clear h hG hC hal hk hn ht hf
  go_enter Tryd.func17, Tryd.ntmps17
  go_wp2_with fail
  go_end0
  exact ⟨rfl, F.out⟩
end

end Go.Proofs.YtgdbpicelnoacaaDoor
