/- This text proves what a side's last small methods compute, and what the law's options are, over the loaded program. -/
import Derived.Test.YtpidjmgapiekaaaGreatDoorNew
namespace Go.Proofs.YtpidjmgapiekaaaGreatDoor
section
open Go.RowKit Go.WideShapes
set_option linter.unusedSimpArgs false
set_option linter.unusedVariables false
attribute [local go_sem] max2_int min2_int max_two min_two

/-- The law's own options. -/
def someO : Opt := ⟨4, 1, 1, 3, 50, 2⟩
theorem someO_good : someO.good := ⟨by decide, by decide, by decide, by decide, by decide, by decide⟩
theorem some_any (w : World) : Calls Tryz.prog 49 #[] w fun e w' => e = .returned someO.v ∧ Below w.heap.size w w' := by
  have B := Lib.hid (below_one (Below.refl w.heap.size w) (.cells #[.int .i64 4, .int .i64 1, .int .i64 1, .int .i64 3, .int .i64 50, .int .i64 2] 30))
  have hb := heap_alloc_new w (.cells #[.int .i64 4, .int .i64 1, .int .i64 1, .int .i64 3, .int .i64 50, .int .i64 2] 30)
  have c0 : (w.alloc (.cells #[.int .i64 4, .int .i64 1, .int .i64 1, .int .i64 3, .int .i64 50, .int .i64 2] 30)).cell? ⟨w.heap.size, 0, none⟩ = some (.int .i64 4) := by simp only [World.cell?, hb]; rfl
  have c1 : (w.alloc (.cells #[.int .i64 4, .int .i64 1, .int .i64 1, .int .i64 3, .int .i64 50, .int .i64 2] 30)).cell? ⟨w.heap.size, 1, none⟩ = some (.int .i64 1) := by simp only [World.cell?, hb]; rfl
  have c2 : (w.alloc (.cells #[.int .i64 4, .int .i64 1, .int .i64 1, .int .i64 3, .int .i64 50, .int .i64 2] 30)).cell? ⟨w.heap.size, 2, none⟩ = some (.int .i64 1) := by simp only [World.cell?, hb]; rfl
  have c3 : (w.alloc (.cells #[.int .i64 4, .int .i64 1, .int .i64 1, .int .i64 3, .int .i64 50, .int .i64 2] 30)).cell? ⟨w.heap.size, 3, none⟩ = some (.int .i64 3) := by simp only [World.cell?, hb]; rfl
  have c4 : (w.alloc (.cells #[.int .i64 4, .int .i64 1, .int .i64 1, .int .i64 3, .int .i64 50, .int .i64 2] 30)).cell? ⟨w.heap.size, 4, none⟩ = some (.int .i64 50) := by simp only [World.cell?, hb]; rfl
  have c5 : (w.alloc (.cells #[.int .i64 4, .int .i64 1, .int .i64 1, .int .i64 3, .int .i64 50, .int .i64 2] 30)).cell? ⟨w.heap.size, 5, none⟩ = some (.int .i64 2) := by simp only [World.cell?, hb]; rfl
  go_enter Tryz.func49, Tryz.ntmps49
  go_wp2_with fail
  exact bodyPost_ret (v := .agg #[.int .i64 4, .int .i64 1, .int .i64 1, .int .i64 3, .int .i64 50, .int .i64 2]) (by simp [results, Tryz.results49, go_sem, c0, c1, c2, c3, c4, c5]) rfl ⟨rfl, B.out⟩

theorem pwrong_any (T : TypeId) (v : Value) (w : World) : Calls Tryz.prog 52 #[.iface T v] w fun e w' => e = .returned (.iface 193 (.pointer (some ⟨w.heap.size, 0, none⟩))) ∧ w' = w.alloc (.cells #[.string ⟨#[112, 97, 114, 116, 110, 101, 114]⟩, .iface T v] 195) := by
  go_enter Tryz.func52, Tryz.ntmps52
  go_wp2_with fail
  refine (at_any _ _ _ _).mono ?_
  rintro e w1 ⟨rfl, rfl⟩
  go_wp2_with fail
  go_ret
  exact ⟨rfl, rfl⟩

section
variable {w w0 w1 : World} {pb : Nat} {a : Ptr} {P P1 : Side}

/-- What happened is handed over. -/
theorem events_any (h : PAt w pb a P) : Calls Tryz.prog 14 #[.pointer (some ⟨pb, 0, none⟩)] w fun e w' =>
    e = .returned a.ev ∧ PAt w' pb { a with ev := .slice none 0 0, evF := [] } { P with ev := [] } ∧ RowN w' 44 2 a.evF a.ev P.ev.length (evCells P.ev) ∧ Kept [pb] w w' := by
  have c7 : w.cell? ⟨pb, 7, none⟩ = some a.ev := h.at 7
  have f7 := h.f 7
  have hk := Kept.setCell w pb 7 (.slice none 0 0)
  have S := h.sep
  have d0 := S.at (i := 0) (j := 4) (l := [pb]) (m := a.evF) rfl rfl (by decide)
  have F : Hid (PAt (w.setCell ⟨pb, 7, none⟩ (.slice none 0 0)) pb { a with ev := .slice none 0 0, evF := [] } { P with ev := [] } ∧ RowN (w.setCell ⟨pb, 7, none⟩ (.slice none 0 0)) 44 2 a.evF a.ev P.ev.length (evCells P.ev) ∧ Kept [pb] w (w.setCell ⟨pb, 7, none⟩ (.slice none 0 0))) := Lib.hid (by
    have hd := h.apart
    have nn : ∀ {x : Nat}, x ≠ pb → x ∉ [pb] := fun hx => by simpa using hx
    have e1 := hd [a.mb, a.mm, a.mg] (by simp [Ptr.fps])
    have e2 := hd [a.ob, a.om, a.og] (by simp [Ptr.fps])
    have e3 := hd a.outF (by simp [Ptr.fps])
    have e4 := hd a.evF (by simp [Ptr.fps])
    have e5 := hd a.foF (by simp [Ptr.fps])
    have e6 := hd [a.vo] (by simp [Ptr.fps])
    have e7 := hd a.ftF (by simp [Ptr.fps])
    have e8 := hd [a.vt] (by simp [Ptr.fps])
    obtain ⟨o1, c1, n1, q1⟩ := h.mine
    obtain ⟨o2, c2, q2⟩ := h.other
    have hm1 := h.ownV
    have hm2 := h.theirV
    refine ⟨⟨by rw [heap_setCell_at h.cell]; rfl, ⟨o1, c1, n1, q1.kept hk (nn (e1 _ (by simp))) (nn (e1 _ (by simp))) (nn (e1 _ (by simp)))⟩, ⟨o2, c2, q2.kept hk (nn (e2 _ (by simp))) (nn (e2 _ (by simp))) (nn (e2 _ (by simp)))⟩,
      h.out.kept hk (fun x hx => nn (e3 x hx)), .inl ⟨rfl, rfl, rfl⟩, h.own.kept hk (fun x hx => nn (e5 x hx)), hm1.kept hk (nn (e6 _ (by simp))), h.their.kept hk (fun x hx => nn (e7 x hx)), hm2.kept hk (nn (e8 _ (by simp))), ?_, ?_⟩, h.evs.kept hk (fun x hx => nn (e4 x hx)), hk⟩
    · exact S.set 4 [] w.heap.size h.small (fun x hx => by cases hx)
    · intro l hl x hx
      have s1 := hk.size
      have hl' : l ∈ (a.fps pb).set 4 [] := hl
      rcases List.mem_or_eq_of_mem_set hl' with hl | rfl
      · have := h.small l hl x hx; omega
      · cases hx)
  obtain ⟨ov, hov⟩ : ∃ x, a.ev = x := ⟨_, rfl⟩
  rw [hov] at c7 F ⊢
  clear h S d0 hk hov
  go_enter Tryz.func14, Tryz.ntmps14
  go_wp2
  go_ret
  exact ⟨rfl, F.out⟩

set_option maxRecDepth 100000 in
theorem agreed_any (h : PAt w pb a P) (hok : P.other.ok) (hw : P.other.wrong ≤ 4000000000) (hw0 : 0 ≤ P.other.wrong) : Calls Tryz.prog 12 #[.pointer (some ⟨pb, 0, none⟩)] w (Reads w (.int .i64 P.agreed)) := by
  have c19 := h.c19
  have CO := Lib.hid (fun k => confirmed_any (h.drewN k) hok hw hw0)
  have OL := Lib.hid (fun k => (PLeft.refl h).olast hok k)
  obtain ⟨R, hR⟩ : ∃ R, P.agreed = R := ⟨_, rfl⟩
  rw [hR]
  unfold Side.agreed mn at hR
  obtain ⟨c, hc⟩ : ∃ c, P.confirmed = c := ⟨_, rfl⟩
  obtain ⟨l, hl⟩ : ∃ c, P.other.last = c := ⟨_, rfl⟩
  rw [hc] at CO hR
  rw [hl] at OL hR
  clear h hok hw hw0 hc hl
  go_enter Tryz.func12, Tryz.ntmps12
  go_wp2_with fail
  go_quiet ((first | (go_at_call 23; exact Calls.quiet_of (CO.out _)) | (go_at_call 51; exact Calls.quiet_of (OL.out _))))
  go_wp2_with fail
  go_ret
  exact ⟨rfl, _, rfl⟩

/-- Nothing is played yet. -/
theorem play_state (h : PAt w pb a P) (hp : P.phase = 1) (x : Int) (b : Addr) (hs : w.cell? ⟨2, 0, none⟩ = some (.iface 221 (.pointer (some b)))) :
    Calls Tryz.prog 26 #[.pointer (some ⟨pb, 0, none⟩), .int .i64 x] w fun e w' => ∃ v, e = .returned (.tuple #[.slice none 0 0, v]) ∧ Wraps w' v b ∧ Below w.heap.size w w' := by
  have c14 : w.cell? ⟨pb, 14, none⟩ = some (.int .i64 P.phase) := h.at 14
  rw [hp] at c14
  have PW := Lib.hid (pwrong_any 221 (.pointer (some b)) w)
  clear h hp
  go_enter Tryz.func26, Tryz.ntmps26
  go_wp2_with fail
  refine PW.out.mono ?_
  rintro e w1 ⟨rfl, rfl⟩
  go_wp2_with fail
  go_ret2
  refine ⟨_, rfl, ⟨w.heap.size, rfl, ?_⟩, below_one (Below.refl _ _) _⟩
  simp only [World.cell?, heap_alloc_new]
  rfl

/-- A player that can't be. -/
theorem pnew_bad (o : Opt) (hg : o.good) (me seed : Int) (hme : 1 < me) (b : Addr) (hs : w.cell? ⟨1, 0, none⟩ = some (.iface 221 (.pointer (some b)))) :
    Calls Tryz.prog 29 #[o.v, .int .i64 me, .int .i64 seed] w fun e w' => ∃ v, e = .returned (.tuple #[.pointer none, v]) ∧ Wraps w' v b ∧ Below w.heap.size w w' := by
  have hb0 := (Below.refl w.heap.size w).alloc (Nat.le_refl _) (.cells o.cs 30)
  have GD := Lib.hid (good31_any o hg (w.alloc (.cells o.cs 30)))
  have PW : Hid (∀ w, Calls Tryz.prog 77 #[.int .i64 me, .int .i64 0, .int .i64 1] w fun e w' => e = .returned (.bool false) ∧ w = w') := Lib.hid (fun w => (pwithin_any me 0 1 w).mono (by
    rintro e w' ⟨rfl, rfl⟩
    exact ⟨by rw [decide_eq_false (show ¬ me ≤ 1 by omega), Bool.and_false], rfl⟩))
  have B0 := Lib.hid hb0
  have HS := Lib.hid hs
  unfold Opt.v at GD ⊢
  unfold Opt.cs at GD B0
  clear hb0 hg hs hme
  go_enter Tryz.func29, Tryz.ntmps29
  go_wp2_with fail
  refine GD.out.mono ?_
  rintro e w1 ⟨rfl, hb1⟩
  have B1 := Lib.hid (B0.out.trans (hb1.mono B0.out.size))
  have g1 : w1.cell? ⟨1, 0, none⟩ = some (.iface 221 (.pointer (some b))) := (B1.out.cell (World.block_lt_of_cell? w _ HS.out)).trans HS.out
  clear hb1
  go_wp2_with fail
  refine (PW.out _).mono ?_
  rintro e w2 ⟨rfl, rfl⟩
  go_wp2_with fail
  refine (pwrong_any 221 (.pointer (some b)) w1).mono ?_
  rintro e w3 ⟨rfl, rfl⟩
  go_wp2_with fail
  go_ret2
  refine ⟨_, rfl, ⟨w1.heap.size, rfl, ?_⟩, below_one B1.out _⟩
  simp only [World.cell?, heap_alloc_new]
  rfl
end
end

section
open Go.RowKit Go.WideShapes
set_option linter.unusedSimpArgs false
set_option linter.unusedVariables false

theorem w64_in {x : Int} (h : -4000000000000000000 ≤ x ∧ x ≤ 4000000000000000000) : wrap64 x = x := by unfold wrap64; omega
theorem rem_in (x : Int) (n : Nat) (hn : 0 < n) : 0 ≤ (IntKind.u64.wrap x).tmod n ∧ (IntKind.u64.wrap x).tmod n < n := by
  have h := u64_ge x
  rw [Int.tmod_eq_emod_of_nonneg h]
  exact ⟨Int.emod_nonneg _ (by omega), Int.emod_lt_of_pos _ (by omega)⟩

set_option maxRecDepth 100000 in
theorem option_any (w : World) (x0 x1 x2 x3 x4 x5 : Int) : Calls Tryz.prog 11 #[.agg #[.int .i64 x0, .int .i64 x1, .int .i64 x2, .int .i64 x3, .int .i64 x4, .int .i64 x5]] w fun e w' => ∃ o : Opt, e = .returned o.v ∧ o.good ∧ o.retry ≤ 9 ∧ Below w.heap.size w w' := by
  obtain ⟨u0, h0⟩ : ∃ u, (IntKind.u64.wrap x0).tmod 12 = u := ⟨_, rfl⟩
  have b0 : 0 ≤ u0 ∧ u0 < 12 := by have := rem_in x0 12 (by decide); rw [← h0]; exact this
  have w0 : wrap64 u0 = u0 := w64_in (by omega)
  have v0 : wrap64 (1 + u0) = 1 + u0 := w64_in (by omega)
  obtain ⟨u1, h1⟩ : ∃ u, (IntKind.u64.wrap x1).tmod 7 = u := ⟨_, rfl⟩
  have b1 : 0 ≤ u1 ∧ u1 < 7 := by have := rem_in x1 7 (by decide); rw [← h1]; exact this
  have w1 : wrap64 u1 = u1 := w64_in (by omega)
  have v1 : wrap64 (1 + u1) = 1 + u1 := w64_in (by omega)
  obtain ⟨u2, h2⟩ : ∃ u, (IntKind.u64.wrap x2).tmod 5 = u := ⟨_, rfl⟩
  have b2 : 0 ≤ u2 ∧ u2 < 5 := by have := rem_in x2 5 (by decide); rw [← h2]; exact this
  have w2 : wrap64 u2 = u2 := w64_in (by omega)
  have v2 : wrap64 (1 + u2) = 1 + u2 := w64_in (by omega)
  obtain ⟨u3, h3⟩ : ∃ u, (IntKind.u64.wrap x3).tmod 9 = u := ⟨_, rfl⟩
  have b3 : 0 ≤ u3 ∧ u3 < 9 := by have := rem_in x3 9 (by decide); rw [← h3]; exact this
  have w3 : wrap64 u3 = u3 := w64_in (by omega)
  have v3 : wrap64 (1 + u3) = 1 + u3 := w64_in (by omega)
  obtain ⟨u4, h4⟩ : ∃ u, (IntKind.u64.wrap x4).tmod 200 = u := ⟨_, rfl⟩
  have b4 : 0 ≤ u4 ∧ u4 < 200 := by have := rem_in x4 200 (by decide); rw [← h4]; exact this
  have w4 : wrap64 u4 = u4 := w64_in (by omega)
  have v4 : wrap64 (1 + u4) = 1 + u4 := w64_in (by omega)
  obtain ⟨u5, h5⟩ : ∃ u, (IntKind.u64.wrap x5).tmod 9 = u := ⟨_, rfl⟩
  have b5 : 0 ≤ u5 ∧ u5 < 9 := by have := rem_in x5 9 (by decide); rw [← h5]; exact this
  have w5 : wrap64 u5 = u5 := w64_in (by omega)
  have v5 : wrap64 (1 + u5) = 1 + u5 := w64_in (by omega)
  have v6 : wrap64 (1 + u3 + 1) = 1 + u3 + 1 := w64_in (by omega)
  have v7 : wrap64 (1 + u3 + 1 + u4) = 1 + u3 + 1 + u4 := w64_in (by omega)
  have HG : Hid (({ window := 1 + u0, delay := u1, syncs := 1 + u2, retry := 1 + u3, timeout := 1 + u3 + 1 + u4, report := 1 + u5 } : Opt).good ∧ 1 + u3 ≤ 9) := Lib.hid ⟨⟨by dsimp only; omega, by dsimp only; omega, by dsimp only; omega, by dsimp only; omega, by dsimp only; omega, by dsimp only; omega⟩, by omega⟩
  clear b0 b1 b2 b3 b4 b5
  go_enter Tryz.func11, Tryz.ntmps11
  go_wp2_with fail
  refine bodyPost_ret (v := .agg #[.int .i64 (1 + u0), .int .i64 u1, .int .i64 (1 + u2), .int .i64 (1 + u3), .int .i64 (1 + u3 + 1 + u4), .int .i64 (1 + u5)]) (by simp [results, Tryz.results11, go_sem, w3_cell]) rfl ⟨_, rfl, HG.out.1, HG.out.2, w3_below _ _ _ _⟩
end

end Go.Proofs.YtpidjmgapiekaaaGreatDoor
