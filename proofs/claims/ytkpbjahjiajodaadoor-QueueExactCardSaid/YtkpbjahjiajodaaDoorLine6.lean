/- This text proves what the line's methods compute, over the loaded program: spoiling, the list, the counts. -/
import Derived.Test.YtkpbjahjiajodaaDoorLine5
namespace Go.Proofs.YtkpbjahjiajodaaDoor
open Go.RowKit Go.WideShapes

/-- Block g begins with the bytes l, and they may be written. -/
def BytesAt (w : World) (g : Nat) (l : List UInt8) : Prop := ∃ C : Array Value, w.heap[g]? = some (.cells C 5 (C.size, C.size + 1)) ∧ l.length ≤ C.size ∧ ∀ j (h : j < l.length), C[j]? = some (.int .u8 (l[j].toNat : Int))

theorem BytesAt.cell {w : World} {g : Nat} {l : List UInt8} (h : BytesAt w g l) (j : Nat) (hj : j < l.length) : w.cell? ⟨g, j, none⟩ = some (.int .u8 (l[j].toNat : Int)) := by
  obtain ⟨C, hb, _, hc⟩ := h
  simp only [World.cell?, hb]
  exact hc j hj
theorem BytesAt.frozen {w : World} {g : Nat} {l : List UInt8} (h : BytesAt w g l) (j : Nat) (hj : j < l.length) : w.frozen? ⟨g, j, none⟩ = false := by
  obtain ⟨C, hb, hl, hc⟩ := h
  simp only [World.frozen?, hb]
  simp; omega
theorem BytesAt.set {w : World} {g : Nat} {l : List UInt8} (h : BytesAt w g l) (j : Nat) (b : UInt8) : BytesAt (w.setCell ⟨g, j, none⟩ (.int .u8 (b.toNat : Int))) g (l.set j b) := by
  obtain ⟨C, hb, hl, hc⟩ := h
  refine ⟨C.setIfInBounds j (.int .u8 (b.toNat : Int)), by unfold World.setCell; simp [Array.getElem?_modify, hb], by simpa using hl, fun i hi => ?_⟩
  have hi' : i < l.length := by simpa using hi
  rw [Array.getElem?_setIfInBounds, List.getElem_set]
  by_cases e : j = i
  · subst e; rw [if_pos rfl, if_pos rfl, if_pos (by omega)]
  · rw [if_neg e, if_neg e]; exact hc i hi'
theorem bytes_of (w : World) (s : ByteArray) : ∃ W cap, (convert 9 49 (.string s)).run Tryd.prog w = .ok (.slice (some ⟨w.heap.size, 0, none⟩) s.size cap) W ∧ BytesAt W w.heap.size s.data.toList ∧ Below w.heap.size w W :=
  ⟨_, _, run_bytes_of_string w 9 49 5 s Tryd.underlying9 Tryd.underlying49 Tryd.underlying5, ⟨_, heap_alloc_new w.drew _, by simp [bytesRow], fun j hj => by
    have hj' : j < s.data.size := by simpa using hj
    rw [bytesRow_at s _ j hj']; simp⟩, ((Below.refl _ _).drew).alloc (Nat.le_refl _) _⟩
theorem bytes_back {w : World} {g : Nat} {l : List UInt8} (h : BytesAt w g l) (n cap : Nat) (hn : n = l.length) : (convert 49 9 (.slice (some ⟨g, 0, none⟩) n cap)).run Tryd.prog w = .ok (.string ⟨l.toArray⟩) w := by
  subst hn
  exact run_convert_bytes_back w 49 9 5 _ cap l Tryd.underlying49 Tryd.underlying5 Tryd.underlying9 (fun j hj => by rw [add_plain, Nat.zero_add]; exact h.cell j hj)

section
variable {w : World} {lb : Nat} {gp : List Nat} {sv : Value} {L : Lin} {A : Nat → Addr}

/-- A text one byte of which is another one. -/
def spoilS (t : ByteArray) (a : Nat) (by_ : UInt8) : ByteArray := ⟨(t.data.toList.set a (t.data.toList.getD a 0 ^^^ by_)).toArray⟩
def Lin.put (L : Lin) (i : Int) (s : ByteArray) : Lin := { L with ts := L.ts.set i.toNat (s, (L.at i).2) }

theorem xor8 (c d : UInt8) : Go.bits .xor .u8 (c.toNat : Int) (d.toNat : Int) = ((c ^^^ d).toNat : Int) := by
  have e : Go.bits .xor .u8 (c.toNat : Int) (d.toNat : Int) = ((BitVec.ofInt 8 (c.toNat : Int) ^^^ BitVec.ofInt 8 (d.toNat : Int)).toNat : Int) % 256 := rfl
  have ec : BitVec.ofInt 8 (c.toNat : Int) = c.toBitVec := by apply BitVec.eq_of_toNat_eq; have := c.toNat_lt; simp
  have ed : BitVec.ofInt 8 (d.toNat : Int) = d.toBitVec := by apply BitVec.eq_of_toNat_eq; have := d.toNat_lt; simp
  rw [e, ec, ed]
  have : (c.toBitVec ^^^ d.toBitVec).toNat = (c ^^^ d).toNat := rfl
  rw [this]
  have := (c ^^^ d).toNat_lt
  omega

theorem RowAt.set {e : TypeId} {size g o cap n : Nat} {xs : List Value} (h : RowAt w e size g o cap n xs) (i : Nat) (v : Value) : RowAt (w.setCell ⟨g, o + i, none⟩ v) e size g o cap n (xs.set i v) := by
  obtain ⟨h1, h2, h3, cur, hb, hs, hx⟩ := h
  refine ⟨by simpa using h1, h2, h3, cur.setIfInBounds (o + i) v, heap_setCell_of hb _ _, by simpa using hs, fun j u hj => ?_⟩
  rw [Array.getElem?_setIfInBounds]
  rw [List.getElem?_set] at hj
  by_cases e : i = j
  · subst e
    rw [if_pos rfl] at hj
    rw [if_pos rfl]
    split at hj
    · rename_i hl
      have := hx i xs[i] (by simp [hl])
      have := (Array.getElem?_eq_some_iff.1 this).1
      rw [if_pos (by omega)]; exact hj
    · cases hj
  · rw [if_neg e] at hj
    rw [if_neg (by omega)]
    exact hx j u hj

set_option maxRecDepth 100000 in
set_option maxHeartbeats 1600000 in
theorem spoil_ok (h : LAt w lb gp sv L) (hok : L.ok) (i : Int) (hi : L.has i) (a : Nat) (ha : a < (L.at i).1.size) (hsz : (L.at i).1.size ≤ 100000) (b : UInt8) (hb : b ≠ 0) :
    Calls Tryd.prog 33 #[.pointer (some ⟨lb, 0, none⟩), .int .i64 i, .int .i64 a, .int .u8 (b.toNat : Int)] w (LOut w lb gp A { L.put i (spoilS (L.at i).1 a b) with c5 := L.c5 + 1 } none id) := by
  obtain ⟨j, rfl⟩ : ∃ j : Nat, i = j := ⟨i.toNat, by unfold Lin.has at hi; omega⟩
  have hj : j < L.ts.length := by unfold Lin.has at hi; omega
  obtain ⟨t, ht⟩ : ∃ t, L.ts[j]? = some t := ⟨L.ts[j], by simp [hj]⟩
  have hat : L.at j = t := by simp [Lin.at, List.getD, ht]
  have hput : (L.put j (spoilS (L.at j).1 a b)).ts = L.ts.set j (spoilS t.1 a b, t.2) := by simp [Lin.put, hat]
  rw [hat] at ha hsz
  obtain ⟨g, o, cap, rfl, hg, hr, hC⟩ := at_ok h hok j hj
  obtain ⟨_, _, _, _, _, _, _, _, _, _, k1, k2, _⟩ := hok
  have n0 := now_cell hr ht
  have c1 := h.at1
  obtain ⟨t1, t2⟩ := t
  simp only at n0 ha hsz hput
  have hgl : g ≠ lb := by rintro rfl; exact h.ne hg
  have hgs : g ≠ w.heap.size := by have := hr.lt; omega
  have hls : lb ≠ w.heap.size := by have := h.lt; omega
  obtain ⟨W, cap2, hcv, hBA, hBW⟩ := bytes_of w t1
  have hal : a < t1.data.toList.length := by simpa using ha
  have m0 := hBA.cell a hal
  have m1 := hBA.frozen a hal
  have ha2 : (a : Int) < (t1.size : Int) := by omega
  obtain ⟨cb, hcb⟩ : ∃ cb, t1.data.toList[a] = cb := ⟨_, rfl⟩
  rw [hcb] at m0
  obtain ⟨S, hS⟩ : ∃ S, spoilS t1 a b = S := ⟨_, rfl⟩
  have hback : (convert 49 9 (.slice (some ⟨w.heap.size, 0, none⟩) t1.size cap2)).run Tryd.prog (W.setCell ⟨w.heap.size, a, none⟩ (.int .u8 (Go.bits .xor .u8 (cb.toNat : Int) (b.toNat : Int)))) = .ok (.string S) (W.setCell ⟨w.heap.size, a, none⟩ (.int .u8 (Go.bits .xor .u8 (cb.toNat : Int) (b.toNat : Int)))) := by
    have := hBA.set a (cb ^^^ b)
    rw [xor8]
    rw [bytes_back this _ cap2 (by simp)]
    rw [← hS]
    unfold spoilS
    rw [List.getD, List.getElem?_eq_getElem hal, Option.getD_some, hcb]
  have V1 := (h.below hBW).kept (Kept.setCell W w.heap.size a (.int .u8 (Go.bits .xor .u8 (cb.toNat : Int) (b.toNat : Int)))) (by simpa using hls) (fun x hx => by have := h.small x hx; simp; omega)
  have R1 : RowAt (W.setCell ⟨w.heap.size, a, none⟩ (.int .u8 (Go.bits .xor .u8 (cb.toNat : Int) (b.toNat : Int)))) 100 2 g o cap L.ts.length (textCells L.ts) := (hr.kept (Kept.of_below (fp := []) hBW) (by simp)).kept (Kept.setCell W w.heap.size a _) (by simpa using hgs)
  have p0 := now_cell R1 ht
  have pf := R1.frozen (o + j * 2)
  simp only at p0
  have R2 := R1.set (j * 2) (.string S)
  rw [← textCells_set L.ts j (t1, t2) ht S] at R2
  have K1 : Kept (lb :: gp) w (W.setCell ⟨w.heap.size, a, none⟩ (.int .u8 (Go.bits .xor .u8 (cb.toNat : Int) (b.toNat : Int)))) := (Kept.of_below hBW).trans (Kept.setCell W w.heap.size a _) (by simp)
  obtain ⟨X, hX⟩ : ∃ X : Value, Value.int .u8 (Go.bits .xor .u8 (cb.toNat : Int) (b.toNat : Int)) = X := ⟨_, rfl⟩
  have q1 : ((b.toNat : Int) == 0) = false := by
    simp
    intro h0
    exact hb (UInt8.toNat_inj.1 h0)
  have q2 : decide ((a : Int) < 0) = false := by simp
  have q3 : decide ((t1.size : Int) ≤ (a : Int)) = false := by simp; omega
  have V2 : LAt ((W.setCell ⟨w.heap.size, a, none⟩ (.int .u8 (Go.bits .xor .u8 (cb.toNat : Int) (b.toNat : Int)))).setCell ⟨g, o + j * 2, none⟩ (.string S)) lb gp (.slice (some ⟨g, o, none⟩) L.ts.length cap) (L.put j (spoilS (L.at j).1 a b)) := by
    refine ⟨?_, .inr ⟨g, o, cap, by rw [hput]; simp, hg, ?_⟩, h.ne, fun x hx => ?_⟩
    · exact ((Kept.setCell _ g _ _).block lb V1.lt (by simpa using hgl.symm)).trans V1.cell
    · rw [hput, hS, List.length_set]; exact R2
    · by_cases hxg : x = g
      · subst hxg
        obtain ⟨_, _, _, cur, hb, _⟩ := R2
        exact ⟨cur, hb⟩
      · obtain ⟨C, hC⟩ := V1.typ x hx
        exact ⟨C, ((Kept.setCell _ g _ _).block x (Array.getElem?_eq_some_iff.1 hC).1 (by simpa using hxg)).trans hC⟩
  have d7 := V2.at7
  have e7 := V2.f 7
  obtain ⟨cc, hcc⟩ : ∃ cc, L.c5 = cc := ⟨_, rfl⟩
  rw [show (L.put j (spoilS (L.at j).1 a b)).c5 = cc from hcc] at d7
  rw [hcc] at k1 k2
  have V3 : Hid (LLeft w lb gp { L.put j (spoilS (L.at j).1 a b) with c5 := L.c5 + 1 } (((W.setCell ⟨w.heap.size, a, none⟩ (.int .u8 (Go.bits .xor .u8 (cb.toNat : Int) (b.toNat : Int)))).setCell ⟨g, o + j * 2, none⟩ (.string S)).setCell ⟨lb, 7, none⟩ (.int .i64 (cc + 1)))) :=
    Lib.hid ⟨gp, _, V2.setNum 7 _ (by rw [← hcc]; rfl) rfl, (K1.trans (Kept.setCell _ g _ _) (by simp [hg])).trans (Kept.setCell _ lb 7 _) (by simp), fun x hx => .inl hx⟩
  have CC := Lib.hid hC
  clear h hi hat ht hr hC hg hj hBA hBW V1 R1 R2 K1 V2 hcc hput hS hX
  go_enter Tryd.func33, Tryd.ntmps33
  go_wp2_with fail
  refine CC.out.mono ?_
  rintro e w1 ⟨rfl, rfl⟩
  go_wp2_with fail
  go_ret
  exact ⟨.nilIface, rfl, rfl, V3.out⟩

/-- Spoil refuses. -/
theorem spoil_arg (h : LAt w lb gp sv L) (hok : L.ok) (hG : GlobL w A) (i : Int) (hi : L.has i) (a : Int) (b : UInt8) (hb : b = 0 ∨ a < 0 ∨ ((L.at i).1.size : Int) ≤ a) (hsz : (L.at i).1.size ≤ 100000) :
    Calls Tryd.prog 33 #[.pointer (some ⟨lb, 0, none⟩), .int .i64 i, .int .i64 a, .int .u8 (b.toNat : Int)] w (LOut w lb gp A L (some 0) id) := by
  obtain ⟨j, rfl⟩ : ∃ j : Nat, i = j := ⟨i.toNat, by unfold Lin.has at hi; omega⟩
  have hj : j < L.ts.length := by unfold Lin.has at hi; omega
  obtain ⟨t, ht⟩ : ∃ t, L.ts[j]? = some t := ⟨L.ts[j], by simp [hj]⟩
  have hat : L.at j = t := by simp [Lin.at, List.getD, ht]
  rw [hat] at hb hsz
  obtain ⟨g, o, cap, rfl, hg, hr, hC⟩ := at_ok h hok j hj
  have n0 := now_cell hr ht
  have c0 := hG 0 (by omega)
  have H := Lib.hid h
  have CC := Lib.hid hC
  obtain ⟨t1, t2⟩ := t
  simp only at n0 hb hsz
  clear h hG hi hok hat ht hr hC hg hj
  by_cases h0 : b = 0
  · subst h0
    clear hb
    go_enter Tryd.func33, Tryd.ntmps33
    go_wp2_with fail
    refine CC.out.mono ?_
    rintro e w1 ⟨rfl, rfl⟩
    go_wp2_with fail
    refine (lwrong_any _ _).mono ?_
    rintro e w1 hR
    obtain ⟨v, rfl, _⟩ := id hR
    have O := Lib.hid (LOut.of_refused (A := A) (j := 0) rfl H.out hR)
    clear hR
    go_wp2
    go_ret
    exact O.out
  · have q1 : ((b.toNat : Int) == 0) = false := by
      simp
      intro h
      exact h0 (UInt8.toNat_inj.1 h)
    by_cases h1 : a < 0
    · clear hb
      go_enter Tryd.func33, Tryd.ntmps33
      go_wp2_with fail
      refine CC.out.mono ?_
      rintro e w1 ⟨rfl, rfl⟩
      go_wp2_with fail
      refine (lwrong_any _ _).mono ?_
      rintro e w1 hR
      obtain ⟨v, rfl, _⟩ := id hR
      have O := Lib.hid (LOut.of_refused (A := A) (j := 0) rfl H.out hR)
      clear hR
      go_wp2
      go_ret
      exact O.out
    · have q2 : decide (a < 0) = false := by simp; omega
      have h2 : (t1.size : Int) ≤ a := by
        rcases hb with h | h | h
        · exact absurd h h0
        · exact absurd h h1
        · exact h
      clear hb h1 h0
      go_enter Tryd.func33, Tryd.ntmps33
      go_wp2_with fail
      refine CC.out.mono ?_
      rintro e w1 ⟨rfl, rfl⟩
      go_wp2_with fail
      refine (lwrong_any _ _).mono ?_
      rintro e w1 hR
      obtain ⟨v, rfl, _⟩ := id hR
      have O := Lib.hid (LOut.of_refused (A := A) (j := 0) rfl H.out hR)
      clear hR
      go_wp2
      go_ret
      exact O.out
theorem spoil_none (h : LAt w lb gp sv L) (hok : L.ok) (hG : GlobL w A) (i : Int) (hi : ¬ L.has i) (a : Int) (b : UInt8) :
    Calls Tryd.prog 33 #[.pointer (some ⟨lb, 0, none⟩), .int .i64 i, .int .i64 a, .int .u8 (b.toNat : Int)] w (LOut w lb gp A L (some 5) id) := by
  have CC := Lib.hid (at_none h hok hG i (not_has hi))
  have H := Lib.hid h
  clear h hG hi hok
  go_enter Tryd.func33, Tryd.ntmps33
  go_wp2_with fail
  refine CC.out.mono ?_
  rintro e w1 ⟨v, rfl, hR⟩
  obtain ⟨v', hv, hw, hb, b, rfl, hs⟩ := id hR
  obtain rfl : v = _ := by simpa using hv
  have O := Lib.hid (LOut.of_refused (A := A) (j := 5) rfl H.out hR)
  clear hR hv hw hb hs
  go_wp2
  go_ret
  exact O.out
theorem spoil_nil (hG : GlobL w A) (i a : Int) (b : Int) : Calls Tryd.prog 33 #[.pointer none, .int .i64 i, .int .i64 a, .int .u8 b] w (RefT w (A 1)) := by
  have CC := Lib.hid (at_nil hG i)
  clear hG
  go_enter Tryd.func33, Tryd.ntmps33
  go_wp2_with fail
  refine CC.out.mono ?_
  rintro e w1 ⟨v, rfl, hR⟩
  obtain ⟨v', hv, hw, hb, b, rfl, hs⟩ := id hR
  obtain rfl : v = _ := by simpa using hv
  have O := Lib.hid hR
  clear hR hv hw hb hs
  go_wp2
  go_ret
  exact O.out

def Lin.spoil (L : Lin) (i a : Int) (b : UInt8) : Lin × Option Nat :=
  if L.has i then if b = 0 ∨ a < 0 ∨ ((L.at i).1.size : Int) ≤ a then (L, some 0) else ({ L.put i (spoilS (L.at i).1 a.toNat b) with c5 := L.c5 + 1 }, none) else (L, some 5)
theorem spoil_any (h : LAt w lb gp sv L) (hok : L.ok) (hG : GlobL w A) (i a : Int) (b : UInt8) (hsz : L.has i → (L.at i).1.size ≤ 100000) :
    Calls Tryd.prog 33 #[.pointer (some ⟨lb, 0, none⟩), .int .i64 i, .int .i64 a, .int .u8 (b.toNat : Int)] w (LOut w lb gp A (L.spoil i a b).1 (L.spoil i a b).2 id) := by
  unfold Lin.spoil
  by_cases hi : L.has i
  · rw [if_pos hi]
    by_cases hb : b = 0 ∨ a < 0 ∨ ((L.at i).1.size : Int) ≤ a
    · rw [if_pos hb]
      exact spoil_arg h hok hG i hi a b hb (hsz hi)
    · rw [if_neg hb]
      obtain ⟨k, rfl⟩ : ∃ k : Nat, a = k := ⟨a.toNat, by omega⟩
      exact spoil_ok h hok i hi k (by omega) (hsz hi) b (fun e => hb (.inl e))
  · rw [if_neg hi]
    exact spoil_none h hok hG i hi a b

/-- Stats. -/
theorem stats_any (h : LAt w lb gp sv L) : Calls Tryd.prog 34 #[.pointer (some ⟨lb, 0, none⟩)] w
    (fun e w' => e = .returned (.agg #[.int .i64 L.c0, .int .i64 L.c1, .int .i64 L.c2, .int .i64 L.c3, .int .i64 L.c4, .int .i64 L.c5]) ∧ Below w.heap.size w w') := by
  obtain ⟨W, hW⟩ : ∃ W, W = w.alloc (.cells #[.int .i64 0, .int .i64 0, .int .i64 0, .int .i64 0, .int .i64 0, .int .i64 0] 59) := ⟨_, rfl⟩
  have hA : LAt W lb gp sv L := by rw [hW]; exact h.below ((Below.refl _ _).alloc (Nat.le_refl _) _)
  have c2 := hA.at2
  have c3 := hA.at3
  have c4 := hA.at4
  have c5 := hA.at5
  have c6 := hA.at6
  have c7 := hA.at7
  have hlb := h.lt
  rw [hW] at c2 c3 c4 c5 c6 c7
  clear h hA hW
  go_enter Tryd.func34, Tryd.ntmps34
  go_wp2_with fail
  exact bodyPost_ret (v := .agg #[.int .i64 L.c0, .int .i64 L.c1, .int .i64 L.c2, .int .i64 L.c3, .int .i64 L.c4, .int .i64 L.c5]) (by simp [results, Tryd.results34, go_sem]) rfl ⟨rfl, (Below.refl _ _).alloc (Nat.le_refl _) _⟩
theorem stats_nil (w : World) : Calls Tryd.prog 34 #[.pointer none] w
    (fun e w' => e = .returned (.agg #[.int .i64 0, .int .i64 0, .int .i64 0, .int .i64 0, .int .i64 0, .int .i64 0]) ∧ Below w.heap.size w w') := by
  go_enter Tryd.func34, Tryd.ntmps34
  go_wp2_with fail
  exact bodyPost_ret (v := .agg #[.int .i64 0, .int .i64 0, .int .i64 0, .int .i64 0, .int .i64 0, .int .i64 0]) (by simp [results, Tryd.results34, go_sem]) rfl ⟨rfl, (Below.refl _ _).alloc (Nat.le_refl _) _⟩

/-- List. -/
theorem llist_nil (w : World) : Calls Tryd.prog 27 #[.pointer none] w (fun e w' => e = .returned (.slice none 0 0) ∧ w = w') := by
  go_enter Tryd.func27, Tryd.ntmps27
  go_wp2
  go_ret
  exact ⟨rfl, rfl⟩

theorem info9 : (Tryd.prog.info? 9).map (fun i => (i.zero, i.size, i.bytes)) = some (some (.string ByteArray.empty), 1, 16) := by kernel_rfl
def nows (ts : List (ByteArray × ByteArray)) : List Value := ts.map fun t => Value.string t.1
theorem nows_one (ts : List (ByteArray × ByteArray)) : ∀ u ∈ nows ts, u.oneCell' = true := by
  intro u hu
  obtain ⟨x, _, rfl⟩ := List.mem_map.1 hu
  rfl

theorem src_of_one {P : Program} (w : World) (g : Nat) (hg : g = w.heap.size) (v : Value) (T t e : TypeId) (hk : P.underlying t = some (.slice e)) (hv : v.oneCell' = true) : Src P 1 t (.slice (some ⟨g, 0, none⟩) 1 1) 1 [v] (w.alloc (.cells #[v] T)) := by
  subst hg
  exact Src.ofSlice _ hk _ 1 1 [v] rfl (fun j u hj => by
    rw [add_plain]
    match j, hj with
    | 0, hj =>
      simp at hj
      subst hj
      rw [World.cell?_alloc_new]; rfl) (fun u hu => by simp at hu; subst hu; exact hv)

/-- What the list's loop holds. -/
def Listing (w0 : World) (ts : List (ByteArray × ByteArray)) (k : Nat) (v : Value) (w : World) : Prop := ∃ gp, RowN w 9 1 gp v k (nows (ts.take k)) ∧ (∀ x ∈ gp, w0.heap.size ≤ x) ∧ Below w0.heap.size w0 w

/-- A list of texts, in a block of its own type. -/
def ListT (w : World) (X : Option Addr) (xs : List Value) : Prop := xs = [] ∨ ∃ g o C, X = some ⟨g, o, none⟩ ∧ w.heap[g]? = some (.cells C 9 (0, 0)) ∧ ∀ i v, xs[i]? = some v → C[o + i]? = some v
theorem ListT.cells {w : World} {X : Option Addr} {xs : List Value} (h : ListT w X xs) : Cells w X xs := by
  rcases h with rfl | ⟨g, o, C, rfl, hb, hc⟩
  · exact Cells.nil _ _
  · exact fun i v hi => ⟨g, o, rfl, by simp only [World.cell?, hb]; exact hc i v hi⟩
theorem ListT.frame {w w' : World} {X : Option Addr} {xs : List Value} (h : ListT w X xs) (hf : FrameT w w') : ListT w' X xs := by
  rcases h with rfl | ⟨g, o, C, rfl, hb, hc⟩
  · exact .inl rfl
  · exact .inr ⟨g, o, C, rfl, (hf g (Array.getElem?_eq_some_iff.1 hb).1 (fun D hd => by simp [hb] at hd) (fun D hd => by simp [hb] at hd)).trans hb, hc⟩
theorem RowN.list {gq : List Nat} {v : Value} {n : Nat} {xs : List Value} (h : RowN w 9 1 gq v n xs) : ∃ X c, v = .slice X n c ∧ ListT w X xs := by
  rcases h with ⟨rfl, rfl, rfl⟩ | ⟨g, o, cap, rfl, _, hr⟩
  · exact ⟨none, 0, rfl, .inl rfl⟩
  · obtain ⟨_, _, _, cur, hb, _, hx⟩ := hr
    exact ⟨_, cap, rfl, .inr ⟨g, o, cur, rfl, hb, hx⟩⟩

set_option maxRecDepth 100000 in
set_option maxHeartbeats 1600000 in
theorem llist_any (h : LAt w lb gp sv L) (hok : L.ok) : Calls Tryd.prog 27 #[.pointer (some ⟨lb, 0, none⟩)] w
    (fun e w' => ∃ X c, e = .returned (.slice X L.ts.length c) ∧ ListT w' X (nows L.ts) ∧ Below w.heap.size w w') := by
  have c1 := h.at1
  obtain ⟨X, cap, rfl, hl1, hl2, hC⟩ := h.row.slice
  obtain ⟨_, _, _, _, _, _, _, _, _, _, _, _, hk3, _⟩ := hok
  obtain ⟨l, hl⟩ : ∃ l, L.ts.length = l := ⟨_, rfl⟩
  rw [hl] at c1 hk3
  have LEN := Lib.hid hl
  have C := Lib.hid hC
  have I0 : Hid (Listing w L.ts 0 (.slice none 0 0) w) := Lib.hid ⟨[], .inl ⟨rfl, rfl, by simp [nows]⟩, by simp, Below.refl _ _⟩
  clear h hl1 hl2 hC hl
  rw [LEN.out]
  go_enter Tryd.func27, Tryd.ntmps27
  go_wp2_with fail
  go_loopw [2, 12] (fun v i wr => ∃ k : Nat, k ≤ l ∧ i = .int .i64 k ∧ Listing w L.ts k v wr) (fun _ i _ => l - (intOf i).toNat)
  case atStart => exact ⟨0, by omega, rfl, I0.out⟩
  case round =>
    obtain ⟨k, hk, rfl, hI⟩ := hrel
    have II := Lib.hid hI
    clear hI
    by_cases hlt : k < l
    · have hkl : k < L.ts.length := by rw [LEN.out]; exact hlt
      obtain ⟨t, ht⟩ : ∃ t, L.ts[k]? = some t := ⟨L.ts[k], by simp [hkl]⟩
      obtain ⟨gq, hR, hgq, hB⟩ := II.out
      obtain ⟨g, o, rfl, n0⟩ := (C.out.below hB) (k * 2) _ (textCells_now L.ts k t ht)
      obtain ⟨g', o', e', n1⟩ := (C.out.below hB) (k * 2 + 1) _ (textCells_was L.ts k t ht)
      cases e'
      rw [← Nat.add_assoc] at n1
      have hi2 : (k : Int) < (l : Int) := by omega
      have hi1 : (0 : Int) ≤ (k : Int) := by omega
      have hR2 : ∀ a b, RowN ((wr.alloc a).alloc b) 9 1 gq u2 k (nows (L.ts.take k)) := fun a b => (hR.kept (Kept.alloc wr a) (by simp)).kept (Kept.alloc _ b) (by simp)
      have RR := Lib.hid hR2
      have fin : ∀ a b g' o' cap' w', RowAt w' 9 1 g' o' cap' (k + 1) (nows (L.ts.take k) ++ [.string t.1]) → Kept gq ((wr.alloc a).alloc b) w' → (g' ∈ gq ∨ g' = ((wr.alloc a).alloc b).heap.size) → Listing w L.ts (k + 1) (.slice (some ⟨g', o', none⟩) (k + 1) cap') w' := fun a b g' o' cap' w' h1 h2 h3 => by
        have hs : wr.heap.size ≤ ((wr.alloc a).alloc b).heap.size := ((Kept.alloc wr a).trans (Kept.alloc _ b) (by simp)).size
        refine ⟨[g'], .inr ⟨g', o', cap', rfl, by simp, ?_⟩, ?_, ?_⟩
        · rw [List.take_succ_eq_append_getElem hkl]
          have e : L.ts[k] = t := by rw [List.getElem?_eq_getElem hkl] at ht; exact Option.some.inj ht
          rw [e]
          simpa [nows] using h1
        · intro x hx
          simp at hx
          subst hx
          rcases h3 with h3 | h3
          · exact hgq _ h3
          · have := hB.size; omega
        · have b1 : Below w.heap.size w ((wr.alloc a).alloc b) := (hB.alloc hB.size a).alloc (by have := hB.size; simp; omega) b
          exact below_kept b1 h2 hgq (Nat.le_refl _)
      have FIN := Lib.hid fin
      clear II hR hR2 fin ht hkl
      go_wp2_with (first
        | (at_builtin; refine wpList_append_rown rfl _ _ 50 50 rfl 9 (.string ByteArray.empty) 1 16 Tryd.underlying50 info9 rfl k _ rfl (RR.out _ _) _ rfl 1 [.string t.1] (src_of_one (wr.alloc _) _ (by simp) _ _ _ _ Tryd.underlying50 rfl) (by decide) (by simp [maxLen]; omega) (by omega) ?_; intro g' o' cap' w' h1 h2 h3; have F := Lib.hid (FIN.out _ _ _ _ _ _ h1 h2 h3); clear h1 h2 h3)
        | fail)
      exact ⟨⟨k + 1, by omega, by go_num, F.out⟩, by simp [intOf]; omega⟩
    · obtain rfl : k = l := by omega
      obtain ⟨gq, hR, hgq, hB⟩ := II.out
      rw [List.take_of_length_le (by rw [LEN.out]; exact Nat.le_refl _)] at hR
      obtain ⟨X2, cap2, rfl, hC2⟩ := hR.list
      have F : Hid (ListT wr X2 (nows L.ts) ∧ Below w.heap.size w wr) := Lib.hid ⟨hC2, hB⟩
      clear II hR hC2 hB
      go_wp2
      go_ret
      exact ⟨X2, cap2, rfl, F.out⟩

end

end Go.Proofs.YtkpbjahjiajodaaDoor
