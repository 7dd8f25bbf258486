/- This text says, in plain Lean, what one side of a session does. -/
import Derived.Test.YtpidjmgapiekaaaGreatDoorPart5
import Derived.Test.YtpidjmgapiekaaaGreatDoorDecPlain
namespace Go.Proofs.YtpidjmgapiekaaaGreatDoor
section
open Go.RowKit Go.WideShapes
set_option linter.unusedSimpArgs false

/-- A packet. -/
def pkt (kind nonce frm base : Int) (ins : List Int) (ack sum : Int) : Par := ⟨kind, nonce, frm, base, ins, ack, sum, none, 0⟩
/-- A packet goes out. -/
def Side.send (P : Side) (p : Par) : Side := if p.good = true then { P with out := P.out ++ [strB (encP p)], sent := P.now } else P
/-- Who is there? -/
def Side.sendSync (P : Side) : Side := { P.send (pkt 1 P.nonce 0 0 [] 0 0) with synced := true, syncAt := P.now }
/-- Its inputs that the other one may not have. -/
def Side.sendInputs (P : Side) : Side :=
  if P.mine.list (P.acked + 1) = [] then P else { P.send (pkt 3 0 (P.acked + 1) (P.mine.get P.acked).1 ((P.mine.list (P.acked + 1)).take 32) P.other.last 0) with inAt := P.now }
/-- Something happened. -/
def Side.event (P : Side) (k f : Int) : Side := { P with ev := P.ev ++ [(k, f)] }
/-- A sync was answered. -/
def Side.answered (P : Side) (n : Int) : Side :=
  if P.phase ≠ 1 ∨ n ≠ P.nonce then P
  else if P.o.syncs ≤ P.rounds + 1 then { P with rounds := P.rounds + 1, phase := 2, ev := P.ev ++ [(1, 0)] }
  else ({ P with rounds := P.rounds + 1 } : Side).draw.sendSync
/-- Time goes on; nothing is missed for too long. -/
def Side.tick (P : Side) : Side :=
  let P : Side := { P with now := P.now + 1 }
  if P.phase = 1 then (if P.synced = false ∨ P.o.retry ≤ P.now - P.syncAt then P.sendSync else P)
  else if P.phase = 2 then
    (if P.acked < P.mine.last ∧ P.o.retry ≤ P.now - P.inAt then P.sendInputs
    else if P.o.retry ≤ P.now - P.sent then P.send (pkt 5 0 0 0 [] P.other.last 0) else P)
  else P

theorem send_good {P : Side} {p : Par} (h : p.good = true) : P.send p = { P with out := P.out ++ [strB (encP p)], sent := P.now } := if_pos h
theorem send_bad {P : Side} {p : Par} (h : p.good = false) : P.send p = P := by unfold Side.send; rw [h]; rfl
theorem send_flds {P : Side} {p q : Par} (hk : p.kind = q.kind) (h : p.flds = q.flds) : P.send p = P.send q := by
  unfold Side.send
  rw [good_flds p, good_flds q, encP_flds p, encP_flds q, hk, h]
end

section
open Go.RowKit Go.WideShapes
set_option linter.unusedSimpArgs false

theorem info9 : (Tryz.prog.info? 9).map (fun i => (i.zero, i.size, i.bytes)) = some (some (.string ⟨#[]⟩), 1, 16) := by kernel_rfl

section
variable {w w0 : World} {pb : Nat} {a : Ptr} {P : Side}

set_option maxRecDepth 100000 in
set_option maxHeartbeats 3200000 in
theorem send_any {A : Nat → Addr} (h : PAt w pb a P) (hG : s_Glob w A) (p : Par) (hp : p.ok w) (hl : P.out.length ≤ 1000000) : Calls Tryz.prog 55 #[.pointer (some ⟨pb, 0, none⟩), p.v] w (PDone w pb a (P.send p) (.tuple #[])) := by
  have hb0 := (Below.refl w.heap.size w).alloc (Nat.le_refl _) (.cells p.cs 57)
  have EN := Lib.hid (enc_any A p (w.alloc (.cells p.cs 57)) (hp.below hb0) (hG.below hb0))
  have B0 := Lib.hid hb0
  have H := Lib.hid h
  have HL := Lib.hid hl
  cases hg : p.good with
  | false =>
    have E : Hid (P.send p = P) := Lib.hid (send_bad hg)
    have HG := Lib.hid hg
    clear hb0 hG hp h hl hg
    obtain ⟨kind, nonce, frm, base, ins, ack, sum, X, c⟩ := p
    unfold Par.v at EN ⊢
    unfold Par.cs at EN B0
    dsimp only at EN B0 ⊢
    rw [E.out]
    go_enter Tryz.func55, Tryz.ntmps55
    go_wp2_with fail
    refine EN.out.mono ?_
    rintro e w1 ⟨hb1, ⟨hf, _⟩ | ⟨_, v, rfl, b, C, rfl, _⟩⟩
    · exact absurd (hf.symm.trans HG.out) (by simp)
    have HB := Lib.hid hb1
    clear hb1
    go_wp2_with fail
    go_end0
    have hb := B0.out.trans (HB.out.mono B0.out.size)
    exact ⟨rfl, a, H.out.below hb, Kept.of_below hb, fun _ hx => .inl hx, rfl, rfl⟩
  | true =>
    have E : Hid (P.send p = { P with out := P.out ++ [strB (encP p)], sent := P.now }) := Lib.hid (send_good hg)
    have HG := Lib.hid hg
    obtain ⟨S, hS⟩ : ∃ S, strB (encP p) = S := ⟨_, rfl⟩
    have EN2 : Hid (Calls Tryz.prog 24 #[p.v] (w.alloc (.cells p.cs 57)) fun e w' => Below (w.alloc (.cells p.cs 57)).heap.size (w.alloc (.cells p.cs 57)) w' ∧ e = .returned (.tuple #[.string S, .nilIface])) := Lib.hid (EN.out.mono (by
      rintro e w1 ⟨hb1, ⟨_, he⟩ | ⟨hf, _⟩⟩
      · exact ⟨hb1, by rw [← hS]; exact he⟩
      · exact absurd (HG.out.symm.trans hf) (by simp)))
    rw [hS] at E
    clear hb0 hG hp h hl hg EN hS HG
    obtain ⟨kind, nonce, frm, base, ins, ack, sum, X, c⟩ := p
    unfold Par.v at EN2 ⊢
    unfold Par.cs at EN2 B0
    dsimp only at EN2 B0 ⊢
    rw [E.out]
    clear E
    go_enter Tryz.func55, Tryz.ntmps55
    go_wp2_with fail
    refine EN2.out.mono ?_
    rintro e w1 ⟨hb1, rfl⟩
    have hb := B0.out.trans (hb1.mono B0.out.size)
    have H1 := Lib.hid (H.out.below hb)
    have B1 := Lib.hid hb
    have c6 : w1.cell? ⟨pb, 6, none⟩ = some a.ov := H1.out.at 6
    obtain ⟨W, hW⟩ : ∃ W, W = w1.alloc (.cells #[.string S] 9) := ⟨_, rfl⟩
    have BW : Below w1.heap.size w1 W := by rw [hW]; exact (Below.refl _ _).alloc (Nat.le_refl _) _
    have HA := Lib.hid (H1.out.below BW)
    have ROW := Lib.hid HA.out.out
    have sp := src_one (P := Tryz.prog) w1 (.string S) 9 47 9 Tryz.underlying47 rfl
    rw [← hW] at sp
    have HW := Lib.hid hW
    have BB := Lib.hid (B1.out.trans (BW.mono B1.out.size))
    have FX : Hid (∀ w2, Kept a.outF W w2 → w2.cell? ⟨pb, 6, none⟩ = some a.ov ∧ w2.frozen? ⟨pb, 6, none⟩ = false) := Lib.hid (fun w2 hk => by
      have d0 := HA.out.sep.at (i := 0) (j := 3) (l := [pb]) (m := a.outF) rfl rfl (by decide)
      have hc := (hk.block pb HA.out.lt (d0 pb (by simp))).trans HA.out.cell
      exact ⟨by simp [World.cell?, hc, Side.cells], by simp [World.frozen?, hc]⟩)
    have TO : Hid (∀ w2 g1 o1 cap1, RowAt w2 9 1 g1 o1 cap1 (P.out.length + 1) (P.out.map Value.string ++ [.string S]) → Kept a.outF W w2 → (g1 ∈ a.outF ∨ g1 = W.heap.size) →
        (w2.setCell ⟨pb, 6, none⟩ (.slice (some ⟨g1, o1, none⟩) (P.out.length + 1) cap1)).cell? ⟨pb, 0, none⟩ = some (.int .i64 P.now) ∧ (w2.setCell ⟨pb, 6, none⟩ (.slice (some ⟨g1, o1, none⟩) (P.out.length + 1) cap1)).frozen? ⟨pb, 4, none⟩ = false ∧
        (w2.setCell ⟨pb, 6, none⟩ (.slice (some ⟨g1, o1, none⟩) (P.out.length + 1) cap1)).cell? ⟨pb, 4, none⟩ = some (.int .i64 P.sent) ∧
        Hid (PDone w pb a { P with out := P.out ++ [S], sent := P.now } (.tuple #[]) (.returned (.tuple #[])) ((w2.setCell ⟨pb, 6, none⟩ (.slice (some ⟨g1, o1, none⟩) (P.out.length + 1) cap1)).setCell ⟨pb, 4, none⟩ (.int .i64 P.now)))) := Lib.hid (fun w2 g1 o1 cap1 hr hk hg => by
      have hr' : RowAt w2 9 1 g1 o1 cap1 (P.out ++ [S]).length ((P.out ++ [S]).map Value.string) := by simpa using hr
      obtain ⟨t1, t2, t3⟩ := HA.out.turnOut hk hr' hg
      rw [show (P.out ++ [S]).length = P.out.length + 1 by simp] at t1 t2 t3
      have x1 := t1.setCell 4 (.int .i64 P.now) (P' := { P with out := P.out ++ [S], sent := P.now }) rfl rfl rfl rfl rfl rfl rfl rfl rfl rfl rfl rfl
      have s1 := BB.out.size
      refine ⟨t1.at 0, t1.f 4, t1.at 4, Lib.hid ⟨rfl, _, x1, ((Kept.of_below BB.out).trans t2 (fun x hx => .inl hx)).trans (Kept.setCell _ pb 4 _) (fun x hx => ?_), fun x hx => (t3 x hx).imp id (fun h => by omega), rfl, rfl⟩⟩
      simp at hx
      subst hx
      exact .inl (pb_mem _ _))
    clear BW hb hb1 hW
    go_wp2_with (first
      | (at_builtin; (try rw [← HW.out]); refine wpList_append_rown rfl _ _ 47 47 rfl 9 (.string ⟨#[]⟩) 1 16 Tryz.underlying47 info9 rfl P.out.length (P.out.map Value.string) rfl ROW.out _ rfl 1 [.string S] sp (by omega) (by have := HL.out; simp [maxLen]; omega) (by have := HL.out; omega) ?_; intro g1 o1 cap1 w2 hr1 hk1 hg1; have d1 := (FX.out _ hk1).1; have f1 := (FX.out _ hk1).2
         obtain ⟨c0, f4, c4, FIN⟩ := TO.out w2 g1 o1 cap1 hr1 hk1 hg1)
      | fail)
    go_end0
    exact FIN.out
end
end

section
open Go.RowKit Go.WideShapes
set_option linter.unusedSimpArgs false

section
variable {w w0 : World} {pb : Nat} {a : Ptr} {P : Side}

theorem send_now (P : Side) (p : Par) : (P.send p).now = P.now := by unfold Side.send; split <;> rfl
theorem pkt_ok (w : World) (kind nonce frm base ack sum : Int) (h1 : In64 kind) (h2 : In64 nonce) (h3 : In64 frm) (h4 : In64 base) (h5 : In64 ack) (h6 : 0 ≤ sum ∧ sum < 18446744073709551616) : (pkt kind nonce frm base [] ack sum).ok w :=
  ⟨h1, h2, h3, h4, h5, h6, by simp [pkt], by simp [pkt], Cells.nil _ _⟩
theorem in64_small {n : Int} (h : -4000000000000000000 ≤ n ∧ n ≤ 4000000000000000000) : In64 n := ⟨by omega, by omega⟩

theorem sendSync_any {A : Nat → Addr} (h : PAt w pb a P) (hG : s_Glob w A) (hl : P.out.length ≤ 1000000) (hn : 0 ≤ P.nonce ∧ P.nonce ≤ 4294967295) : Calls Tryz.prog 75 #[.pointer (some ⟨pb, 0, none⟩)] w (PDone w pb a P.sendSync (.tuple #[])) := by
  have c22 : w.cell? ⟨pb, 22, none⟩ = some (.int .i64 P.nonce) := h.at 22
  have SD := Lib.hid (send_any h hG (pkt 1 P.nonce 0 0 [] 0 0) (pkt_ok w _ _ _ _ _ _ (in64_small (by omega)) (in64_small (by omega)) (in64_small (by omega)) (in64_small (by omega)) (in64_small (by omega)) (by omega)) hl)
  have E : Hid (P.sendSync = { P.send (pkt 1 P.nonce 0 0 [] 0 0) with synced := true, syncAt := (P.send (pkt 1 P.nonce 0 0 [] 0 0)).now }) := Lib.hid (by unfold Side.sendSync; rw [send_now])
  obtain ⟨n, hn'⟩ : ∃ n, P.nonce = n := ⟨_, rfl⟩
  rw [hn'] at c22 SD E
  obtain ⟨P1, hP1⟩ : ∃ P1, P.send (pkt 1 n 0 0 [] 0 0) = P1 := ⟨_, rfl⟩
  rw [hP1] at SD E
  rw [E.out]
  clear E hP1 hn hn' hl hG h
  unfold Par.v pkt at SD
  dsimp only at SD
  go_enter Tryz.func75, Tryz.ntmps75
  go_wp2_with fail
  refine SD.out.mono ?_
  rintro e w1 ⟨rfl, hd⟩
  have L1 : Hid (PLeft w pb a P1 w1) := Lib.hid hd
  clear hd
  have c0 := L1.out.c 0 (.int .i64 P1.now) (fun _ _ _ => rfl)
  have f1 := L1.out.f 1
  have c1 := L1.out.c 1 (.bool P1.synced) (fun _ _ _ => rfl)
  have S1 := Lib.hid (L1.out.set 1 (.bool true) (P' := { P1 with synced := true }) (fun _ => rfl) rfl rfl rfl rfl rfl rfl rfl rfl rfl rfl rfl)
  have f2 := S1.out.f 2
  have c2 := S1.out.c 2 (.int .i64 P1.syncAt) (fun _ _ _ => rfl)
  have S2 := Lib.hid (S1.out.set 2 (.int .i64 P1.now) (P' := { P1 with synced := true, syncAt := P1.now }) (fun _ => rfl) rfl rfl rfl rfl rfl rfl rfl rfl rfl rfl rfl)
  go_wp2_with fail
  go_end0
  exact ⟨rfl, S2.out⟩

theorem draw_out (P : Side) : P.draw.out = P.out ∧ 0 ≤ P.draw.nonce ∧ P.draw.nonce ≤ 4294967295 := by
  have := drawN_range P.seed 4294967296
  refine ⟨rfl, this.1, ?_⟩
  have := this.2 (by omega)
  show drawN P.seed 4294967296 ≤ _
  omega

set_option maxHeartbeats 1600000 in
theorem answered_any {A : Nat → Addr} (h : PAt w pb a P) (hf : Far w0 w pb a) (hG : s_Glob w0 A) (hl : P.out.length ≤ 1000000) (he : P.ev.length ≤ 1000000) (hr : 0 ≤ P.rounds ∧ P.rounds ≤ 1000000) (n : Int) : Calls Tryz.prog 57 #[.pointer (some ⟨pb, 0, none⟩), .int .i64 n] w (PDone w pb a (P.answered n) (.tuple #[])) := by
  have c14 : w.cell? ⟨pb, 14, none⟩ = some (.int .i64 P.phase) := h.at 14
  have c22 : w.cell? ⟨pb, 22, none⟩ = some (.int .i64 P.nonce) := h.at 22
  have c23 : w.cell? ⟨pb, 23, none⟩ = some (.int .i64 P.rounds) := h.at 23
  have f23 := h.f 23
  have L0 := Lib.hid (PLeft.refl h)
  have FF := Lib.hid hf
  have GG := Lib.hid hG
  have HL := Lib.hid hl
  have HE := Lib.hid he
  obtain ⟨R, hR⟩ : ∃ R, P.answered n = R := ⟨_, rfl⟩
  rw [hR]
  unfold Side.answered at hR
  have ew : IntKind.i64.wrap (P.rounds + 1) = P.rounds + 1 := IntWalk.i64_in _ (by omega)
  clear h hf hG hl he
  by_cases h1 : P.phase = 1
  · by_cases h2 : n = P.nonce
    · rw [if_neg (by simp [h1, h2])] at hR
      have S1 := Lib.hid (L0.out.set 23 (.int .i64 (P.rounds + 1)) (P' := { P with rounds := P.rounds + 1 }) (fun _ => rfl) rfl rfl rfl rfl rfl rfl rfl rfl rfl rfl rfl)
      have k1 := S1.out.c 23 (.int .i64 (P.rounds + 1)) (fun _ _ _ => rfl)
      have k2 := S1.out.c 10 (.int .i64 P.o.syncs) (fun _ _ _ => rfl)
      have f14 := S1.out.f 14
      have k14 := S1.out.c 14 (.int .i64 P.phase) (fun _ _ _ => rfl)
      rw [h1] at c14 k14
      rw [← h2] at c22
      by_cases h3 : P.o.syncs ≤ P.rounds + 1
      · rw [if_pos h3] at hR
        have S2 := Lib.hid (fun k => (S1.out.drewN k).set 14 (.int .i64 2) (P' := { P with rounds := P.rounds + 1, phase := 2 }) (fun _ => rfl) rfl rfl rfl rfl rfl rfl rfl rfl rfl rfl rfl)
        have EV := Lib.hid (fun k => (S2.out k).step (fun a1 h1 _ _ _ => event_any h1 HE.out 1 0))
        have HR := Lib.hid hR
        have t3 : decide (P.o.syncs ≤ P.rounds + 1) = true := by simpa using h3
        clear h1 h2 h3 hr hR
        go_enter Tryz.func57, Tryz.ntmps57
        go_wp2_with fail
        go_quiet (fail)
        go_wp2_with fail
        refine (EV.out _).mono ?_
        rintro e w1 ⟨rfl, hd⟩
        have L1 := Lib.hid hd
        clear hd
        go_wp2_with fail
        go_end0
        rw [← HR.out]
        exact ⟨rfl, L1.out⟩
      · rw [if_neg h3] at hR
        have t3 : decide (P.o.syncs ≤ P.rounds + 1) = false := by simpa using h3
        have DR := Lib.hid (fun k => (S1.out.drewN k).step (fun a1 h1 _ _ _ => pdraw_any h1))
        have HR := Lib.hid hR
        clear h1 h2 h3 hr hR
        go_enter Tryz.func57, Tryz.ntmps57
        go_wp2_with fail
        go_quiet (fail)
        go_wp2_with fail
        refine (DR.out _).mono ?_
        rintro e w1 ⟨rfl, hd⟩
        have L1 := Lib.hid hd
        clear hd
        go_wp2_with fail
        refine (L1.out.step (fun a1 h1 _ _ hfar => sendSync_any h1 (GG.out.below (hfar w0 FF.out).1) HL.out (draw_out _).2)).mono ?_
        rintro e w2 ⟨rfl, hd⟩
        have L2 := Lib.hid hd
        clear hd
        go_wp2_with fail
        go_end0
        rw [← HR.out]
        exact ⟨rfl, L2.out⟩
    · rw [if_pos (.inr h2)] at hR
      subst hR
      rw [h1] at c14
      have t2 : (n != P.nonce) = true := by simpa using h2
      clear h1 h2
      go_enter Tryz.func57, Tryz.ntmps57
      go_wp2_with fail
      go_end0
      exact ⟨rfl, L0.out⟩
  · rw [if_pos (.inl h1)] at hR
    subst hR
    have t2 : (P.phase != 1) = true := by simpa using h1
    clear h1
    go_enter Tryz.func57, Tryz.ntmps57
    go_wp2_with fail
    go_end0
    exact ⟨rfl, L0.out⟩
end
end

section
open Go.RowKit Go.WideShapes
set_option linter.unusedSimpArgs false
attribute [local go_sem] max2_int min2_int max_two min_two

/-- A queue of inputs. -/
def Que.fine (q : Que) : Prop := q.ok ∧ ∀ x ∈ q.xs, 0 ≤ x ∧ x ≤ 255
theorem getD_in {l : List Int} (h : ∀ x ∈ l, 0 ≤ x ∧ x ≤ 255) (i : Nat) : 0 ≤ l.getD i 0 ∧ l.getD i 0 ≤ 255 := by
  rw [List.getD_eq_getElem?_getD]
  cases e : l[i]? with
  | none => simp
  | some x => exact h x (List.mem_of_getElem? e)
theorem Que.fine.get {q : Que} (h : q.fine) (f : Int) : 0 ≤ (q.get f).1 ∧ (q.get f).1 ≤ 255 := by
  unfold Que.get Que.guess
  repeat' split
  · simp
  · exact getD_in h.2 _
  · simp
  · exact getD_in h.2 _
theorem Que.fine.last {q : Que} (h : q.fine) : 0 ≤ q.last ∧ q.last ≤ 1073741825 := by
  obtain ⟨⟨h1, h2, h3⟩, _⟩ := h
  unfold Que.last
  omega
theorem drew_below (w w1 : World) (h : w1.heap = w.heap) (h1 : w1.os = w.os) (h2 : w1.tape = w.tape) (h3 : w1.output = w.output) : Below w.heap.size w w1 := ⟨h1, h2, h3, by rw [h]; exact Nat.le_refl _, fun _ _ => by rw [h]⟩

theorem send_c24 (P : Side) (p : Par) (a : Ptr) : ((P.send p).cells a)[24]? = some (.int .i64 P.acked) := by unfold Side.send; split <;> rfl
section
variable {w w0 : World} {pb : Nat} {a : Ptr} {P : Side}

set_option maxRecDepth 100000 in
set_option maxHeartbeats 3200000 in
theorem sendInputs_any {A : Nat → Addr} (h : PAt w pb a P) (hf : Far w0 w pb a) (hG : s_Glob w0 A) (hl : P.out.length ≤ 1000000) (hm : P.mine.fine) (ho : P.other.fine) (ha : 0 ≤ P.acked ∧ P.acked ≤ 2000000000) : Calls Tryz.prog 76 #[.pointer (some ⟨pb, 0, none⟩)] w (PDone w pb a P.sendInputs (.tuple #[])) := by
  have LI : Hid (∀ wx, Below w.heap.size w wx → Calls Tryz.prog 128 #[.pointer (some ⟨a.mb, 0, none⟩), .int .i64 (P.acked + 1)] wx fun e w1 => ∃ X c, e = .returned (.slice X (P.mine.list (P.acked + 1)).length c) ∧ Cells w1 X (iv (P.mine.list (P.acked + 1))) ∧ Below w.heap.size w w1 ∧ (P.mine.list (P.acked + 1)).length ≤ c ∧ c ≤ maxLen) := Lib.hid (fun wx hb => (mlist_any (h.below hb) hm.1 (P.acked + 1) (by omega)).mono (by
    rintro e w1 ⟨X, c, rfl, h1, h2, h3, h4⟩
    rw [List.length_map] at h3 ⊢
    exact ⟨X, c, rfl, h1, hb.trans (h2.mono hb.size), h3, h4⟩))
  have c18 := h.c18
  have c24 : w.cell? ⟨pb, 24, none⟩ = some (.int .i64 P.acked) := h.at 24
  have H := Lib.hid h
  have BASE := Lib.hid (fun wx (hb : Below w.heap.size w wx) => mget_any (h.below hb) hm.1 P.acked)
  have LAST := Lib.hid (fun wx (hb : Below w.heap.size w wx) => olast_any (h.below hb) ho.1)
  have XS : Hid (∀ x ∈ P.mine.list (P.acked + 1), 0 ≤ x ∧ x ≤ 255) := Lib.hid (fun x hx => hm.2 x (List.mem_of_mem_drop hx))
  have LN : Hid ((P.mine.list (P.acked + 1)).length ≤ 256) := Lib.hid (by
    have := hm.1.2.2
    unfold Que.list
    rw [List.length_drop]
    omega)
  have SEND := Lib.hid (fun wx (hb : Below w.heap.size w wx) (p : Par) (hp : p.ok wx) => ((PLeft.refl h).below hb).step (fun a1 h1 _ _ hfar => send_any h1 (hG.below (hfar w0 hf).1) p hp hl))
  have hbb := hm.get P.acked
  have hll := ho.last
  have haa := ha
  obtain ⟨R, hR⟩ : ∃ R, P.sendInputs = R := ⟨_, rfl⟩
  rw [hR]
  unfold Side.sendInputs at hR
  obtain ⟨ac, hac⟩ : ∃ x, P.acked = x := ⟨_, rfl⟩
  rw [hac] at c24 LI BASE haa hbb XS LN hR
  obtain ⟨L, hL⟩ : ∃ x, P.mine.list (ac + 1) = x := ⟨_, rfl⟩
  rw [hL] at LI XS LN hR
  obtain ⟨bs, hbs⟩ : ∃ x, (P.mine.get ac).1 = x := ⟨_, rfl⟩
  rw [hbs] at BASE hbb hR
  obtain ⟨la, hla⟩ : ∃ x, P.other.last = x := ⟨_, rfl⟩
  rw [hla] at LAST hll hR
  have ew : IntKind.i64.wrap (ac + 1) = ac + 1 := IntWalk.i64_in _ (by omega)
  have HAC := Lib.hid hac
  clear h hf hG hl hm ho ha hac hL hbs hla
  by_cases h0 : L = []
  · subst h0
    rw [if_pos rfl] at hR
    subst hR
    go_enter Tryz.func76, Tryz.ntmps76
    go_wp2_with fail
    go_still_tail 9, (by kernel_rfl)
    go_wp2_with fail
    refine (LI.out _ (by exact drew_below _ _ rfl rfl rfl rfl)).mono ?_
    rintro e w1 ⟨X, c, rfl, hC, hB, hc1, hc2⟩
    go_wp2_with fail
    go_end0
    exact ⟨rfl, (PLeft.refl H.out).below hB⟩
  · rw [if_neg h0] at hR
    have HR := Lib.hid hR
    obtain ⟨l, hl⟩ : ∃ l, L.length = l := ⟨_, rfl⟩
    have hl0 : 0 < l := by rw [← hl]; exact List.length_pos_iff.2 h0
    rw [hl] at LI LN
    have t0 : ¬ (l : Int) = 0 := by omega
    obtain ⟨m, hm⟩ : ∃ m, (L.take 32).length = m := ⟨_, rfl⟩
    have hm2 : m = if 32 < l then 32 else l := by rw [← hm, List.length_take, hl]; split <;> omega
    have K : (if (32 : Int) < (l : Int) then (32 : Int) else (l : Int)) = (m : Int) := by rw [hm2]; split <;> split <;> omega
    have hml : m ≤ l := by rw [hm2]; split <;> omega
    have HMM := Lib.hid hm
    have HXX : Hid (∀ wx X, Cells wx X (iv L) → Cells wx X (iv (L.take 32))) := Lib.hid (fun wx X hC i v hi => hC i v (by
      unfold iv at hi ⊢
      rw [List.map_take, List.getElem?_take] at hi
      split at hi
      · exact hi
      · cases hi))
    have HL0 := Lib.hid hl
    have hi1 : (0 : Int) ≤ (m : Int) := by omega
    clear h0 hl hm hm2 hR
    go_enter Tryz.func76, Tryz.ntmps76
    go_wp2_with fail
    go_still_tail 9, (by kernel_rfl)
    go_wp2_with fail
    refine (LI.out _ (by exact drew_below _ _ rfl rfl rfl rfl)).mono ?_
    rintro e w1 ⟨X, c, rfl, hC, hB, hc1, hc2⟩
    have H1 := Lib.hid (H.out.below hB)
    have c19 := H1.out.c19
    have d18 := H1.out.c18
    have d24 : w1.cell? ⟨pb, 24, none⟩ = some (.int .i64 ac) := by rw [← HAC.out]; exact H1.out.at 24
    have CC := Lib.hid hC
    have HB := Lib.hid hB
    obtain ⟨b, o, hX, _⟩ := hC 0 (.int .i64 (L[0]'(by rw [HL0.out]; exact hl0))) (by unfold iv; rw [List.getElem?_map, List.getElem?_eq_getElem (by rw [HL0.out]; exact hl0)]; rfl)
    subst hX
    have hi2 : (m : Int) ≤ (c : Int) := by omega
    have hc0 : ¬ c = 0 := by omega
    have hmc : m ≤ c := by omega
    clear hC hB
    have BG := Lib.hid (fun k => BASE.out (w1.drewN k) (HB.out.trans (show Below w.heap.size w1 (w1.drewN k) from ⟨rfl, rfl, rfl, Nat.le_refl _, fun _ _ => rfl⟩)))
    go_wp2_with fail
    go_quiet ((go_at_call 82; exact Calls.quiet_of (BG.out _)))
    have HAA := Lib.hid (And.intro haa (And.intro hbb hll))
    obtain ⟨P1, hP1⟩ : ∃ P1, P.send (pkt 3 0 (ac + 1) bs (L.take 32) la 0) = P1 := ⟨_, rfl⟩
    rw [hP1] at HR
    have HP1 := Lib.hid hP1
    clear hP1 haa hbb hll
    have SE : Hid (∀ wx, Below w1.heap.size w1 wx → Calls Tryz.prog 55 #[.pointer (some ⟨pb, 0, none⟩), .agg #[.int .i64 3, .int .i64 0, .int .i64 (ac + 1), .int .i64 bs, .slice (some ⟨b, o, none⟩) m c, .int .i64 la, .int .u64 0]] wx (fun e w2 => e = .returned (.tuple #[]) ∧ PLeft w pb a P1 w2)) := Lib.hid (fun wx hb => by
      have hbx := HB.out.trans (hb.mono HB.out.size)
      have := SEND.out wx hbx ⟨3, 0, ac + 1, bs, L.take 32, la, 0, some ⟨b, o, none⟩, c⟩ ⟨in64_small (by dsimp only; omega), in64_small (by dsimp only; omega), in64_small (by have := HAA.out; dsimp only; omega), in64_small (by have := HAA.out; dsimp only; omega), in64_small (by have := HAA.out; dsimp only; omega), by dsimp only; omega, by dsimp only; rw [HMM.out]; have := LN.out; omega, fun x hx => in64_small (by have := XS.out x (List.mem_of_mem_take hx); omega), (HXX.out _ _ CC.out).below hb⟩
      unfold Par.v at this
      dsimp only at this
      rw [HMM.out, show P.send ⟨3, 0, ac + 1, bs, L.take 32, la, 0, some ⟨b, o, none⟩, c⟩ = P1 from (send_flds (p := ⟨3, 0, ac + 1, bs, L.take 32, la, 0, some ⟨b, o, none⟩, c⟩) (q := pkt 3 0 (ac + 1) bs (L.take 32) la 0) rfl rfl).trans HP1.out] at this
      exact this)
    have LA := Lib.hid (fun wx (hb : Below w1.heap.size w1 wx) => LAST.out wx (HB.out.trans (hb.mono HB.out.size)))
    go_wp2_with fail
    apply meetF (R := fun wx => PLeft w pb a P1 wx)
    case h =>
      go_region_held3 (fun w' => w'.cell? ⟨pb, 24, none⟩ = some (.int .i64 ac) ∧ w'.cell? ⟨pb, 19, none⟩ = some (.pointer (some ⟨a.ob, 0, none⟩)))
        (first | exact ⟨d24, c19⟩ | exact ⟨e24, e19⟩)
        (first
          | (go_at_call 51; (with_reducible refine (LA.out _ ?_).mono ?_); exact drew_below _ _ rfl rfl rfl rfl; rintro e w3 ⟨rfl, k3, rfl⟩)
          | (go_at_call 55; (with_reducible refine (SE.out _ ?_).mono ?_); exact drew_below _ _ rfl rfl rfl rfl; rintro e w4 ⟨rfl, hd⟩; have e24 := hd.c 24 (.int .i64 ac) (fun _ _ _ => by rw [← HAC.out, ← HP1.out]; exact send_c24 P _ _); have e19 := hd.c 19 (.pointer (some ⟨a.ob, 0, none⟩)) (fun a1 _ h5 => by rw [← h5]; rfl)))
      all_goals exact ⟨rfl, hd⟩
    case k =>
      intro wx hd
      have L1 := Lib.hid hd
      clear hd
      have c0 := L1.out.c 0 (.int .i64 P1.now) (fun _ _ _ => rfl)
      have f3 := L1.out.f 3
      have c3 := L1.out.c 3 (.int .i64 P1.inAt) (fun _ _ _ => rfl)
      have S1 := Lib.hid (L1.out.set 3 (.int .i64 P1.now) (P' := { P1 with inAt := P1.now }) (fun _ => rfl) rfl rfl rfl rfl rfl rfl rfl rfl rfl rfl rfl)
      go_wp2_with fail
      go_end0
      rw [← HR.out, show P.now = P1.now by rw [← HP1.out, send_now]]
      exact ⟨rfl, S1.out⟩
end
end

section
open Go.RowKit Go.WideShapes
set_option linter.unusedSimpArgs false

/-- Its numbers are small. -/
structure Side.small (P : Side) : Prop where
  now : 0 ≤ P.now ∧ P.now ≤ 1000000000
  syncAt : 0 ≤ P.syncAt ∧ P.syncAt ≤ 1000000000
  inAt : 0 ≤ P.inAt ∧ P.inAt ≤ 1000000000
  sent : 0 ≤ P.sent ∧ P.sent ≤ 1000000000
  heard : 0 ≤ P.heard ∧ P.heard ≤ 1000000000
  out : P.out.length ≤ 1000000
  ev : P.ev.length ≤ 1000000
  mine : P.mine.fine
  other : P.other.fine
  acked : 0 ≤ P.acked ∧ P.acked ≤ 2000000000
  nonce : 0 ≤ P.nonce ∧ P.nonce ≤ 4294967295
  rounds : 0 ≤ P.rounds ∧ P.rounds ≤ 1000000

/-- A call that reads, in a region behind one that drew. -/
theorem reads_more {f : FuncId} {args : Array Value} {w : World} {v : Value} {i j : Nat} (h : Calls Tryz.prog f args (w.drewN (i + j)) (Reads (w.drewN (i + j)) v)) : Calls Tryz.prog f args (w.drewN (i + j)) fun e w2 => e = .returned v ∧ ∃ m, w2 = w.drewN (i + m) := by
  refine h.mono ?_
  rintro e w2 ⟨he, k, hk⟩
  exact ⟨he, j + k, by rw [hk, World.drewN_drewN, Nat.add_assoc]⟩
theorem same_more {f : FuncId} {args : Array Value} {w : World} {v : Value} {i j : Nat} (h : Calls Tryz.prog f args (w.drewN (i + j)) fun e w2 => e = .returned v ∧ w2 = w.drewN (i + j)) : Calls Tryz.prog f args (w.drewN (i + j)) fun e w2 => e = .returned v ∧ ∃ m, w2 = w.drewN (i + m) := by
  refine h.mono ?_
  rintro e w2 ⟨he, hk⟩
  exact ⟨he, j, hk⟩
section
variable {w w0 w1 : World} {pb : Nat} {a : Ptr} {P P1 : Side}
theorem PLeft.mlast (h : PLeft w pb a P1 w1) (hok : P1.mine.ok) (k : Nat) : Calls Tryz.prog 51 #[.pointer (some ⟨a.mb, 0, none⟩)] (w1.drewN k) (Reads (w1.drewN k) (.int .i64 P1.mine.last)) := by
  obtain ⟨a1, h1, h2, h3, h4, h5⟩ := h.drewN k
  rw [← h4]
  exact mlast_any h1 hok
theorem PLeft.olast (h : PLeft w pb a P1 w1) (hok : P1.other.ok) (k : Nat) : Calls Tryz.prog 51 #[.pointer (some ⟨a.ob, 0, none⟩)] (w1.drewN k) (Reads (w1.drewN k) (.int .i64 P1.other.last)) := by
  obtain ⟨a1, h1, h2, h3, h4, h5⟩ := h.drewN k
  rw [← h5]
  exact olast_any h1 hok
theorem PLeft.due (h : PLeft w pb a P1 w1) (s t : Int) (hs : 0 ≤ s ∧ s ≤ 1000000000) (hn : 0 ≤ P1.now ∧ P1.now ≤ 2000000000) {b : Bool} (hb : decide (t ≤ P1.now - s) = b) (k : Nat) : Calls Tryz.prog 74 #[.pointer (some ⟨pb, 0, none⟩), .int .i64 s, .int .i64 t] (w1.drewN k) fun e w' => e = .returned (.bool b) ∧ w' = w1.drewN k := by
  obtain ⟨a1, h1, h2, h3, h4, h5⟩ := h.drewN k
  rw [← hb]
  exact (due_any h1 s t (by omega) (by omega)).mono fun e w' h => ⟨h.1, h.2.symm⟩

set_option maxRecDepth 100000 in
set_option maxHeartbeats 6400000 in
theorem tick_any {A : Nat → Addr} (h : PAt w pb a P) (hf : Far w0 w pb a) (hG : s_Glob w0 A) (hs : P.small) (hq : P.phase = 2 → P.now + 1 - P.heard < P.o.timeout) : Calls Tryz.prog 25 #[.pointer (some ⟨pb, 0, none⟩)] w (PDone w pb a P.tick (.tuple #[])) := by
  have c0 : w.cell? ⟨pb, 0, none⟩ = some (.int .i64 P.now) := h.at 0
  have f0 := h.f 0
  obtain ⟨R, hR⟩ : ∃ R, P.tick = R := ⟨_, rfl⟩
  rw [hR]
  unfold Side.tick at hR
  dsimp only at hR
  have L1 := Lib.hid ((PLeft.refl h).set 0 (.int .i64 (P.now + 1)) (P' := { P with now := P.now + 1 }) (fun _ => rfl) rfl rfl rfl rfl rfl rfl rfl rfl rfl rfl rfl)
  have ew : IntKind.i64.wrap (P.now + 1) = P.now + 1 := IntWalk.i64_in _ (by have := hs.now; omega)
  have k14 := L1.out.c 14 (.int .i64 P.phase) (fun _ _ _ => rfl)
  have k11 := L1.out.c 11 (.int .i64 P.o.retry) (fun _ _ _ => rfl)
  have k1 := L1.out.c 1 (.bool P.synced) (fun _ _ _ => rfl)
  have k2 := L1.out.c 2 (.int .i64 P.syncAt) (fun _ _ _ => rfl)
  have k5 := L1.out.c 5 (.int .i64 P.heard) (fun _ _ _ => rfl)
  have k12 := L1.out.c 12 (.int .i64 P.o.timeout) (fun _ _ _ => rfl)
  have k3 := L1.out.c 3 (.int .i64 P.inAt) (fun _ _ _ => rfl)
  have k4 := L1.out.c 4 (.int .i64 P.sent) (fun _ _ _ => rfl)
  have k24 := L1.out.c 24 (.int .i64 P.acked) (fun _ _ _ => rfl)
  have k18 := L1.out.c 18 (.pointer (some ⟨a.mb, 0, none⟩)) (fun a1 h4 _ => by rw [← h4]; rfl)
  have k19 := L1.out.c 19 (.pointer (some ⟨a.ob, 0, none⟩)) (fun a1 _ h5 => by rw [← h5]; rfl)
  have FF := Lib.hid hf
  have GG := Lib.hid hG
  have HS := Lib.hid hs
  have HN : Hid (0 ≤ P.now + 1 ∧ P.now + 1 ≤ 2000000000) := Lib.hid (by have := hs.now; omega)
  have HR := Lib.hid hR
  clear h hf hG hR
  by_cases p1 : P.phase = 1
  · rw [p1] at k14
    have HP := Lib.hid p1
    have SS := Lib.hid (fun k => (L1.out.drewN k).step (fun a1 h1 _ _ hfar => sendSync_any h1 (GG.out.below (hfar w0 FF.out).1) HS.out.out HS.out.nonce))
    clear p1 hq
    cases hy : P.synced with
    | false =>
      rw [hy] at k1
      have E : Hid (R = ({ P with now := P.now + 1 } : Side).sendSync) := Lib.hid (by rw [← HR.out, if_pos HP.out, if_pos (.inl hy)])
      clear hy hs
      go_enter Tryz.func25, Tryz.ntmps25
      go_wp2_with fail
      go_quiet (fail)
      go_wp2_with fail
      refine (SS.out _).mono ?_
      rintro e w2 ⟨rfl, hd⟩
      have L2 := Lib.hid hd
      clear hd
      go_wp2_with fail
      go_end0
      rw [E.out]
      exact ⟨rfl, L2.out⟩
    | true =>
      rw [hy] at k1
      by_cases hd : P.o.retry ≤ P.now + 1 - P.syncAt
      · have E : Hid (R = ({ P with now := P.now + 1 } : Side).sendSync) := Lib.hid (by rw [← HR.out, if_pos HP.out, if_pos (.inr hd)])
        have DU := Lib.hid (fun k => L1.out.due P.syncAt P.o.retry HS.out.syncAt HN.out (b := true) (by simpa using hd) k)
        clear hy hs hd
        go_enter Tryz.func25, Tryz.ntmps25
        go_wp2_with fail
        go_quiet ((go_at_call 74; exact Calls.quiet_of_same (DU.out _)))
        go_wp2_with fail
        refine (SS.out _).mono ?_
        rintro e w2 ⟨rfl, hd⟩
        have L2 := Lib.hid hd
        clear hd
        go_wp2_with fail
        go_end0
        rw [E.out]
        exact ⟨rfl, L2.out⟩
      · have E : Hid (R = { P with now := P.now + 1 }) := Lib.hid (by rw [← HR.out, if_pos HP.out, if_neg (by rw [hy]; simpa using hd)])
        have DU := Lib.hid (fun k => L1.out.due P.syncAt P.o.retry HS.out.syncAt HN.out (b := false) (by simpa using hd) k)
        clear hy hs hd
        go_enter Tryz.func25, Tryz.ntmps25
        go_wp2_with fail
        go_quiet ((go_at_call 74; exact Calls.quiet_of_same (DU.out _)))
        go_wp2_with fail
        go_end0
        rw [E.out]
        exact ⟨rfl, L1.out.drewN _⟩
  · have t1 : (P.phase == 1) = false := by simpa using p1
    by_cases p2 : P.phase = 2
    · have hto := hq p2
      have D8 := Lib.hid (fun k => L1.out.due P.heard P.o.timeout HS.out.heard HN.out (b := false) (by simp; omega) k)
      have ML := Lib.hid (fun k => L1.out.mlast HS.out.mine.1 k)
      have OL := Lib.hid (fun k => L1.out.olast HS.out.other.1 k)
      have AL := Lib.hid (fun k => (L1.out.drewN k).step (fun a1 h1 _ _ hfar => send_any h1 (GG.out.below (hfar w0 FF.out).1) (pkt 5 0 0 0 [] P.other.last 0) (pkt_ok _ _ _ _ _ _ _ (in64_small (by omega)) (in64_small (by omega)) (in64_small (by omega)) (in64_small (by omega)) (in64_small (by have := HS.out.other.last; omega)) (by omega)) HS.out.out))
      have SI := Lib.hid (fun k => (L1.out.drewN k).step (fun a1 h1 _ _ hfar => sendInputs_any h1 (hfar w0 FF.out) GG.out HS.out.out HS.out.mine HS.out.other HS.out.acked))
      have HP1 := Lib.hid p1
      have HP2 := Lib.hid p2
      rw [p2] at k14
      obtain ⟨ml, hml⟩ : ∃ x, P.mine.last = x := ⟨_, rfl⟩
      obtain ⟨ol, hol⟩ : ∃ x, P.other.last = x := ⟨_, rfl⟩
      unfold Par.v pkt at AL
      dsimp only at ML OL AL
      rw [hol] at OL AL
      rw [hml] at ML
      have HML := Lib.hid hml
      have HOL := Lib.hid hol
      clear p1 p2 hq hto t1 hml hol hs
      by_cases h1 : P.acked < ml
      · have q1 : decide (P.acked < ml) = true := by simpa using h1
        by_cases h2 : P.o.retry ≤ P.now + 1 - P.inAt
        · have E : Hid (R = ({ P with now := P.now + 1 } : Side).sendInputs) := Lib.hid (by rw [← HR.out, if_neg HP1.out, if_pos HP2.out, if_pos (by rw [HML.out]; exact ⟨h1, h2⟩)])
          have D11 := Lib.hid (fun k => L1.out.due P.inAt P.o.retry HS.out.inAt HN.out (b := true) (by simpa using h2) k)
          clear h1 h2
          go_enter Tryz.func25, Tryz.ntmps25
          go_wp2_with fail
          go_quiet ((go_at_call 74; exact Calls.quiet_of_same (D8.out _)))
          go_wp2_with fail
          go_quiet ((first | (go_at_call 51; exact reads_more (ML.out _)) | (go_at_call 74; exact same_more (D11.out _))))
          go_wp2_with fail
          refine (SI.out _).mono ?_
          rintro e w2 ⟨rfl, hd⟩
          have L2 := Lib.hid hd
          clear hd
          go_wp2_with fail
          go_end0
          rw [E.out]
          exact ⟨rfl, L2.out⟩
        · by_cases h3 : P.o.retry ≤ P.now + 1 - P.sent
          · have E : Hid (R = ({ P with now := P.now + 1 } : Side).send (pkt 5 0 0 0 [] ol 0)) := Lib.hid (by rw [← HR.out, if_neg HP1.out, if_pos HP2.out, if_neg (by rw [HML.out]; exact fun h => h2 h.2), if_pos h3, HOL.out])
            have D13 := Lib.hid (fun k => L1.out.due P.sent P.o.retry HS.out.sent HN.out (b := true) (by simpa using h3) k)
            have D11 := Lib.hid (fun k => L1.out.due P.inAt P.o.retry HS.out.inAt HN.out (b := false) (by simpa using h2) k)
            clear h2
            clear h1 h3
            go_enter Tryz.func25, Tryz.ntmps25
            go_wp2_with fail
            go_quiet ((go_at_call 74; exact Calls.quiet_of_same (D8.out _)))
            go_wp2_with fail
            go_quiet ((first | (go_at_call 51; exact reads_more (ML.out _)) | (go_at_call 74; exact same_more (D11.out _))))
            go_wp2_with fail
            go_quiet ((go_at_call 74; exact same_more (D13.out _)))
            go_wp2_with fail
            refine (OL.out _).mono ?_
            rintro e w2 ⟨rfl, k2, rfl⟩
            go_wp2_with fail
            refine (AL.out _).mono ?_
            rintro e w3 ⟨rfl, hd⟩
            have L2 := Lib.hid hd
            clear hd
            go_wp2_with fail
            go_end0
            rw [E.out]
            exact ⟨rfl, L2.out⟩
          · have E : Hid (R = { P with now := P.now + 1 }) := Lib.hid (by rw [← HR.out, if_neg HP1.out, if_pos HP2.out, if_neg (by rw [HML.out]; exact fun h => h2 h.2), if_neg h3])
            have D13 := Lib.hid (fun k => L1.out.due P.sent P.o.retry HS.out.sent HN.out (b := false) (by simpa using h3) k)
            have D11 := Lib.hid (fun k => L1.out.due P.inAt P.o.retry HS.out.inAt HN.out (b := false) (by simpa using h2) k)
            clear h2
            clear h1 h3
            go_enter Tryz.func25, Tryz.ntmps25
            go_wp2_with fail
            go_quiet ((go_at_call 74; exact Calls.quiet_of_same (D8.out _)))
            go_wp2_with fail
            go_quiet ((first | (go_at_call 51; exact reads_more (ML.out _)) | (go_at_call 74; exact same_more (D11.out _))))
            go_wp2_with fail
            go_quiet ((go_at_call 74; exact same_more (D13.out _)))
            go_wp2_with fail
            go_end0
            rw [E.out]
            exact ⟨rfl, ((L1.out.drewN _).drewN _).drewN _⟩
      · have q1 : decide (P.acked < ml) = false := by simpa using h1
        by_cases h3 : P.o.retry ≤ P.now + 1 - P.sent
        · have E : Hid (R = ({ P with now := P.now + 1 } : Side).send (pkt 5 0 0 0 [] ol 0)) := Lib.hid (by rw [← HR.out, if_neg HP1.out, if_pos HP2.out, if_neg (by rw [HML.out]; exact fun h => h1 h.1), if_pos h3, HOL.out])
          have D13 := Lib.hid (fun k => L1.out.due P.sent P.o.retry HS.out.sent HN.out (b := true) (by simpa using h3) k)
          clear h1 h3
          go_enter Tryz.func25, Tryz.ntmps25
          go_wp2_with fail
          go_quiet ((go_at_call 74; exact Calls.quiet_of_same (D8.out _)))
          go_wp2_with fail
          go_quiet ((go_at_call 51; exact reads_more (ML.out _)))
          go_wp2_with fail
          go_quiet ((go_at_call 74; exact same_more (D13.out _)))
          go_wp2_with fail
          refine (OL.out _).mono ?_
          rintro e w2 ⟨rfl, k2, rfl⟩
          go_wp2_with fail
          refine (AL.out _).mono ?_
          rintro e w3 ⟨rfl, hd⟩
          have L2 := Lib.hid hd
          clear hd
          go_wp2_with fail
          go_end0
          rw [E.out]
          exact ⟨rfl, L2.out⟩
        · have E : Hid (R = { P with now := P.now + 1 }) := Lib.hid (by rw [← HR.out, if_neg HP1.out, if_pos HP2.out, if_neg (by rw [HML.out]; exact fun h => h1 h.1), if_neg h3])
          have D13 := Lib.hid (fun k => L1.out.due P.sent P.o.retry HS.out.sent HN.out (b := false) (by simpa using h3) k)
          clear h1 h3
          go_enter Tryz.func25, Tryz.ntmps25
          go_wp2_with fail
          go_quiet ((go_at_call 74; exact Calls.quiet_of_same (D8.out _)))
          go_wp2_with fail
          go_quiet ((go_at_call 51; exact reads_more (ML.out _)))
          go_wp2_with fail
          go_quiet ((go_at_call 74; exact same_more (D13.out _)))
          go_wp2_with fail
          go_end0
          rw [E.out]
          exact ⟨rfl, ((L1.out.drewN _).drewN _).drewN _⟩
    · have t2 : (P.phase == 2) = false := by simpa using p2
      have E : Hid (R = { P with now := P.now + 1 }) := Lib.hid (by rw [← HR.out, if_neg p1, if_neg p2])
      clear p1 p2 hq hs
      go_enter Tryz.func25, Tryz.ntmps25
      go_wp2_with fail
      go_end0
      rw [E.out]
      exact ⟨rfl, L1.out⟩
end
end

end Go.Proofs.YtpidjmgapiekaaaGreatDoor
