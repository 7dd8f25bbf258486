/- This text proves what Encode answers, over the loaded program. -/
import Derived.Test.YtpidjmgapiekaaaGreatDoorEnc3
import Derived.Test.YtpidjmgapiekaaaGreatDoorEncPlain
import Derived.Test.YtpidjmgapiekaaaGreatDoorSum4
namespace Go.Proofs.YtpidjmgapiekaaaGreatDoor
open Go.RowKit Go.WideShapes
set_option linter.unusedSimpArgs false

theorem wrongAt_any (T : TypeId) (v : Value) (w : World) : Calls Tryz.prog 62 #[.iface T v] w fun e w' => e = .returned (.iface 193 (.pointer (some ⟨w.heap.size, 0, none⟩))) ∧ w' = w.alloc (.cells #[.string ⟨#[112, 97, 114, 99, 101, 108]⟩, .iface T v] 195) := by
  go_enter Tryz.func62, Tryz.ntmps62
  go_wp2_with fail
  refine (at_any _ _ _ _).mono ?_
  rintro e w1 ⟨rfl, rfl⟩
  go_wp2_with fail
  go_ret
  exact ⟨rfl, rfl⟩

/-- One call on a writer more, whose blocks are known to be old ones or new ones. -/
theorem WLeft.step2 {A : Nat → Addr} {w1 wi : World} {wb : Nat} {gp : List Nat} {Wi Wj : Wri} {f : FuncId} {args : Array Value} (h : WLeft A w1 wb gp Wi wi) (hc : ∀ g, WAt A wi wb g Wi → (∀ x ∈ g, x ∈ gp ∨ w1.heap.size ≤ x) → Calls Tryz.prog f args wi (WDone A wi wb g Wj)) :
    Calls Tryz.prog f args wi fun e w' => e = .returned (.tuple #[]) ∧ WLeft A w1 wb gp Wj w' := by
  obtain ⟨gi, h1, h2, h3⟩ := h
  have hw : WLeft A wi wb gi Wi wi := WLeft.start h1
  refine (hc gi h1 h3).mono ?_
  rintro e w' ⟨rfl, gj, k1, k2, k3⟩
  refine ⟨rfl, gj, k1, h2.trans k2 (fun x hx => ?_), fun x hx => ?_⟩
  · rcases List.mem_cons.1 hx with rfl | hx
    · exact .inl (by simp)
    · rcases h3 x hx with h | h
      · exact .inl (by simp [h])
      · exact .inr h
  · rcases k3 x hx with h | h
    · exact h3 x h
    · exact .inr (Nat.le_trans h2.size h)
theorem WLeft.bel {A : Nat → Addr} {w0 w1 wi : World} {wb : Nat} {W : Wri} (h : WLeft A w1 wb [] W wi) (hb : Below w0.heap.size w0 w1) (hn : w0.heap.size ≤ wb) : Below w0.heap.size w0 wi := by
  obtain ⟨gi, h1, h2, h3⟩ := h
  exact below_kept hb h2 (by simpa using hn) (Nat.le_refl _)

/-- A packet's bytes. -/
def encP (p : Par) : List UInt8 := bareL p ++ sum4 (bareL p)
/-- What Encode answers. -/
def EncB (A : Nat → Addr) (p : Par) (w : World) (e : Ending) (w' : World) : Prop := Below w.heap.size w w' ∧ ((p.good = true ∧ e = .returned (.tuple #[.string (strB (encP p)), .nilIface])) ∨ (p.good = false ∧ ∃ v, e = .returned (.tuple #[.string ⟨#[]⟩, v]) ∧ WrapsT w' v (A 1)))
theorem sum4_len (l : List UInt8) : (sum4 l).length = 4 := rfl

set_option maxRecDepth 100000 in
set_option maxHeartbeats 6400000 in
theorem enc_any (A : Nat → Addr) (p : Par) (w : World) (h : p.ok w) (hG : s_Glob w A) : Calls Tryz.prog 24 #[p.v] w (EncB A p w) := by
  have hb0 := (Below.refl w.heap.size w).alloc (Nat.le_refl _) (.cells p.cs 57)
  have GD := Lib.hid (good_any p _ (h.below hb0))
  have B0 := Lib.hid hb0
  have OK := Lib.hid h
  have GG := Lib.hid hG
  have HA := Lib.hid (heap_alloc_new w (.cells p.cs 57))
  cases hg : p.good with
  | false =>
    rw [hg] at GD
    have HGd := Lib.hid hg
    clear hb0 h hG hg
    obtain ⟨kind, nonce, frm, base, ins, ack, sum, X, c⟩ := p
    unfold Par.v at GD ⊢
    unfold Par.cs at GD B0 HA
    dsimp only at GD B0 HA ⊢
    go_enter Tryz.func24, Tryz.ntmps24
    go_wp2_with fail
    refine GD.out.mono ?_
    rintro e w1 ⟨rfl, hb1⟩
    have B1 := Lib.hid (B0.out.trans (hb1.mono B0.out.size))
    clear hb1
    have g1 := (GG.out.below B1.out) 1 (by decide)
    dsimp only [gl] at g1
    go_wp2_with fail
    refine (wrongAt_any _ _ _).mono ?_
    rintro e w2 ⟨rfl, rfl⟩
    have F : Hid (WrapsT (w1.alloc (.cells #[.string ⟨#[112, 97, 114, 99, 101, 108]⟩, .iface 221 (.pointer (some (A 1)))] 195)) (.iface 193 (.pointer (some ⟨w1.heap.size, 0, none⟩))) (A 1)) := Lib.hid ⟨_, _, rfl, heap_alloc_new _ _, rfl⟩
    go_wp2_with fail
    go_ret2
    exact ⟨below_one B1.out _, .inr ⟨HGd.out, _, rfl, F.out⟩⟩
  | true =>
    rw [hg] at GD
    have HGd := Lib.hid hg
    have FIT := Lib.hid (whole_fit hg)
    have PV := Lib.hid (fun (wz : World) (wb : Nat) (gp : List Nat) (W : Wri) (hz : WAt A wz wb gp W) (hw : POk W) (hgz : s_Glob wz A) (hn : ∀ j, j < 5 → j ∉ wb :: gp) (hpz : p.ok wz) (hx : p.kind = 3 → ∀ b o, p.X = some ⟨b, o, none⟩ → b ∉ wb :: gp) => body_any hz hw hgz hn p hpz (fun hk3 => by
      have := hg
      unfold Par.good Par.own at this
      rw [Bool.and_eq_true] at this
      have h1 := this.1
      rw [if_neg (by omega), if_neg (by omega), if_neg (by omega), if_pos hk3] at h1
      by_cases hi : p.isIn = true
      · have := (isIn_of hi).1.2; omega
      · rw [if_neg hi] at h1; cases h1) hx)
    have HK := Lib.hid (good_kind hg)
    have X3 : Hid (p.kind = 3 → ∀ b o, p.X = some ⟨b, o, none⟩ → b < w.heap.size) := Lib.hid (fun hk3 b o hx => by
      have := hg
      unfold Par.good Par.own at this
      rw [Bool.and_eq_true] at this
      have h1 := this.1
      rw [if_neg (by omega), if_neg (by omega), if_neg (by omega), if_pos hk3] at h1
      by_cases hi : p.isIn = true
      · have hl := (isIn_of hi).1.1
        obtain ⟨b', o', he, hc⟩ := h.2.2.2.2.2.2.2.2 0 (.int .i64 (p.ins[0]'(by omega))) (by simp [iv, List.getElem?_eq_getElem (show 0 < p.ins.length by omega)])
        rw [hx] at he
        cases he
        exact World.block_lt_of_cell? w _ hc
      · rw [if_neg hi] at h1; cases h1)
    clear hb0 h hG hg
    obtain ⟨kind, nonce, frm, base, ins, ack, sum, X, c⟩ := p
    unfold Par.v at GD PV ⊢
    unfold Par.cs at GD B0 HA
    dsimp only at GD B0 HA HK PV X3 ⊢
    go_enter Tryz.func24, Tryz.ntmps24
    go_wp2_with fail
    refine GD.out.mono ?_
    rintro e w1 ⟨rfl, hb1⟩
    have a1 := (hb1.block w.heap.size (by rw [size_alloc1]; omega)).trans HA.out
    have B1 := Lib.hid (B0.out.trans (hb1.mono B0.out.size))
    have S1 := Lib.hid (show w.heap.size + 1 ≤ w1.heap.size by have := hb1.size; rw [size_alloc1] at this; exact this)
    have A1 := Lib.hid a1
    clear hb1 a1
    go_wp2_with fail
    refine (wnew_any A 508 w1).mono ?_
    rintro e w2 ⟨rfl, hw2, hb2⟩
    obtain ⟨wb, hwb⟩ : ∃ wb, w1.heap.size = wb := ⟨_, rfl⟩
    rw [hwb] at hw2 ⊢
    -- the page's box
    have al := (Below.refl w2.heap.size w2).alloc (Nat.le_refl _) (.cells #[.pointer (some ⟨wb, 0, none⟩)] 125)
    obtain ⟨w3, hw3⟩ : ∃ w3, w2.alloc (.cells #[.pointer (some ⟨wb, 0, none⟩)] 125) = w3 := ⟨_, rfl⟩
    have b3 := heap_alloc_new w2 (.cells #[.pointer (some ⟨wb, 0, none⟩)] 125)
    obtain ⟨pb, hpb⟩ : ∃ pb, w2.heap.size = pb := ⟨_, rfl⟩
    rw [hw3] at al b3
    rw [hpb] at b3
    have x3 := (al.block w.heap.size (by have := S1.out; have := hb2.size; omega)).trans ((hb2.block w.heap.size (by have := S1.out; omega)).trans A1.out)
    have L3 := Lib.hid (WLeft.start (hw2.below al))
    have B3 := Lib.hid (B1.out.trans ((hb2.trans (al.mono hb2.size)).mono B1.out.size))
    have PB := Lib.hid (And.intro x3 b3)
    have NN : Hid ((w.heap.size ∉ [wb] ∧ pb ∉ [wb]) ∧ (∀ j, j < 5 → j ∉ [wb]) ∧ w.heap.size < wb) := Lib.hid (by
      have h1 := S1.out
      have h2 := hw2.lt
      have h3 : 4 < w.heap.size := World.block_lt_of_cell? w _ (GG.out 0 (by decide))
      refine ⟨⟨by simp; omega, by simp; omega⟩, fun j hj => by simp; omega, by omega⟩)
    have G3 := Lib.hid (GG.out.below B3.out)
    have P0 : POk (Wri.new 508) := ⟨rfl, by simp [Wri.new]⟩
    have E3 := Lib.hid hw3
    have EP := Lib.hid hpb
    clear hw2 hb2 hwb al hw3 b3 hpb x3
    go_wp2_with fail
    rw [E3.out, EP.out]
    refine (L3.out.step (fun g hg => byte_any hg P0.ok G3.out 80)).mono ?_
    rintro e w4 ⟨rfl, hl⟩
    have L4 := Lib.hid hl
    have xa := hl.box PB.out.1 NN.out.1.1
    have xb := hl.box PB.out.2 NN.out.1.2
    have p0 : w4.cell? ⟨pb, 0, none⟩ = some (.pointer (some ⟨wb, 0, none⟩)) := by simp only [World.cell?, xb]; rfl
    have q0 : w4.cell? ⟨w.heap.size, 0, none⟩ = some (.int .i64 kind) := by simp only [World.cell?, xa]; rfl
    clear hl xa xb
    go_wp2_with fail
    refine (L4.out.step (fun g hg => byte_any hg (P0.byte _).ok (L4.out.glob G3.out NN.out.2.1) kind)).mono ?_
    rintro e w5 ⟨rfl, hl⟩
    have L5 := Lib.hid hl
    have B5 := Lib.hid (hl.bel B3.out (by have := NN.out.2.2; omega))
    have xa := hl.box PB.out.1 NN.out.1.1
    have xb := hl.box PB.out.2 NN.out.1.2
    clear p0 q0
    have p0 : w5.cell? ⟨pb, 0, none⟩ = some (.pointer (some ⟨wb, 0, none⟩)) := by simp only [World.cell?, xb]; rfl
    have q0 : w5.cell? ⟨w.heap.size, 0, none⟩ = some (.int .i64 kind) := by simp only [World.cell?, xa]; rfl
    have q1 : w5.cell? ⟨w.heap.size, 1, none⟩ = some (.int .i64 nonce) := by simp only [World.cell?, xa]; rfl
    have q2 : w5.cell? ⟨w.heap.size, 2, none⟩ = some (.int .i64 frm) := by simp only [World.cell?, xa]; rfl
    have q3 : w5.cell? ⟨w.heap.size, 3, none⟩ = some (.int .i64 base) := by simp only [World.cell?, xa]; rfl
    have q4 : w5.cell? ⟨w.heap.size, 4, none⟩ = some (.slice X ins.length c) := by simp only [World.cell?, xa]; rfl
    have q5 : w5.cell? ⟨w.heap.size, 5, none⟩ = some (.int .i64 ack) := by simp only [World.cell?, xa]; rfl
    have q6 : w5.cell? ⟨w.heap.size, 6, none⟩ = some (.int .u64 sum) := by simp only [World.cell?, xa]; rfl
    have BD := Lib.hid (fun g (hg : WAt A w5 wb g (((Wri.new 508).byte 80).byte kind)) (hs : ∀ x ∈ g, x ∈ ([] : List Nat) ∨ w3.heap.size ≤ x) => PV.out w5 wb g _ hg ((P0.byte _).byte _) (L5.out.glob G3.out NN.out.2.1) (fun j hj hm => by
        rcases List.mem_cons.1 hm with e | hm
        · exact NN.out.2.1 j hj (by simp [e])
        · rcases hs j hm with h | h
          · cases h
          · have := B3.out.size; have h3 : 4 < w.heap.size := World.block_lt_of_cell? w _ (GG.out 0 (by decide)); omega) (OK.out.below B5.out) (fun hk b o hx hm => by
        have hb := X3.out hk b o hx
        rcases List.mem_cons.1 hm with e | hm
        · have := NN.out.2.2; omega
        · rcases hs b hm with h | h
          · cases h
          · have := B3.out.size; omega))
    clear hl xa xb
    go_wp2_with fail
    refine (L5.out.step2 BD.out).mono ?_
    rintro e w6 ⟨rfl, hl⟩
    have L6 := Lib.hid hl
    have B6 := Lib.hid (hl.bel B3.out (by have := NN.out.2.2; omega))
    have xb := hl.box PB.out.2 NN.out.1.2
    clear p0 q0 q1 q2 q3 q4 q5 q6
    have p0 : w6.cell? ⟨pb, 0, none⟩ = some (.pointer (some ⟨wb, 0, none⟩)) := by simp only [World.cell?, xb]; rfl
    obtain ⟨g6, hg6, _, _⟩ := hl
    have BY := bytes_ok hg6 FIT.out.1.1
    have ho := FIT.out.1.2.2
    unfold Wri.whole at ho
    dsimp only at ho BY
    rw [ho] at BY
    obtain ⟨L, hL⟩ : ∃ L, bareL ⟨kind, nonce, frm, base, ins, ack, sum, X, c⟩ = L := ⟨_, rfl⟩
    have hLl : L.length ≤ 100 := by rw [← hL]; exact FIT.out.2
    rw [hL] at BY
    have BYH := Lib.hid BY
    have HL := Lib.hid hL
    clear BY ho hL hg6 xb
    go_wp2_with fail
    refine BYH.out.mono ?_
    rintro e w7 ⟨rfl, rfl⟩
    have sz : (strB L).size ≤ maxLen := by rw [strB_size]; simp only [maxLen]; omega
    have PS := Lib.hid (psum_any (strB L) w6 sz)
    have hd : (strB L).data.toList = L := by simp [strB]
    rw [hd] at PS
    have sm := small_cat L (sum4 L) (by rw [sum4_len]; omega)
    have CAT : Hid (strB L ++ strB (sum4 L) = strB (encP ⟨kind, nonce, frm, base, ins, ack, sum, X, c⟩)) := Lib.hid (by rw [strB_append, encP, HL.out])
    clear sz hd p0
    go_wp2_with fail
    refine PS.out.mono ?_
    rintro e w8 ⟨rfl, hb8⟩
    have B8 := Lib.hid (B6.out.trans (hb8.mono B6.out.size))
    clear hb8
    go_wp2_with fail
    go_ret2
    exact ⟨B8.out, .inl ⟨HGd.out, congrArg (fun s => Ending.returned (.tuple #[.string s, .nilIface])) CAT.out⟩⟩

end Go.Proofs.YtpidjmgapiekaaaGreatDoor
