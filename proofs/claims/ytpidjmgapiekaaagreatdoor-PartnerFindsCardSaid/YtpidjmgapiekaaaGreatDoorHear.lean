/- This text proves what a side's hearing of syncs, replies and acks computes, over the loaded program. -/
import Derived.Test.YtpidjmgapiekaaaGreatDoorTick
import Derived.Test.YtpidjmgapiekaaaGreatDoorDec5
namespace Go.Proofs.YtpidjmgapiekaaaGreatDoor
open Go.RowKit Go.WideShapes
set_option linter.unusedSimpArgs false

/-- What comes where nothing is played: syncs, replies, acks. -/
def Side.hearS (P : Side) (q : Par) : Side :=
  if P.phase = 3 then P
  else if q.kind = 1 then ({ P with heard := P.now } : Side).send (pkt 2 q.nonce 0 0 [] 0 0)
  else if q.kind = 2 then ({ P with heard := P.now } : Side).answered q.nonce
  else ({ P with heard := P.now } : Side).ack q.ack

section
variable {w w0 w1 : World} {pb : Nat} {a : Ptr} {P P1 : Side}

set_option maxRecDepth 100000 in
set_option maxHeartbeats 6400000 in
theorem hearS_any {A : Nat → Addr} (h : PAt w pb a P) (hf : Far w0 w pb a) (hA : s_Apart 5 w0 A) (hs : P.small) (s : ByteArray) (hsz : s.size ≤ 100000) (q : Par) (hd : decOk s.data.toList = true) (hq : decPar s.data.toList = q.flds.par q.kind none 0) (hk : q.kind = 1 ∨ q.kind = 2 ∨ q.kind = 5) (hn : 0 ≤ q.nonce ∧ q.nonce ≤ 4294967295) :
    Calls Tryz.prog 18 #[.pointer (some ⟨pb, 0, none⟩), .string s] w (PDone w pb a (P.hearS q) .nilIface) := by
  have DEC : Hid (Calls Tryz.prog 19 #[.string s] w fun e w' => Below w.heap.size w w' ∧ ∃ X c, e = .returned (.tuple #[.agg #[.int .i64 q.kind, .int .i64 q.nonce, .int .i64 q.frm, .int .i64 q.base, .slice X q.ins.length c, .int .i64 q.ack, .int .u64 q.sum], .nilIface])) := Lib.hid ((dec_any A s w (hA.below hf.1) hsz).mono (by
    rintro e w' ⟨hb, ⟨_, X, c, rfl, _⟩ | ⟨hf, _⟩⟩
    · refine ⟨hb, X, c, ?_⟩
      have e1 : (decPar s.data.toList).kind = q.kind := by rw [hq]; rfl
      have e2 : (decPar s.data.toList).flds = q.flds := by rw [hq]; rfl
      have e3 : (decQ s.data.toList).2.par ((decB s.data.toList).2 : Int) X c = q.flds.par q.kind X c := by
        have : (decQ s.data.toList).2 = q.flds := e2
        rw [this, show ((decB s.data.toList).2 : Int) = q.kind from e1]
      rw [e3]
      rfl
    · rw [hd] at hf; cases hf))
  have H := Lib.hid h
  have FF := Lib.hid hf
  have GG := Lib.hid (hA.glob (by decide))
  have HS := Lib.hid hs
  have HNN := Lib.hid hn
  obtain ⟨R, hR⟩ : ∃ R, P.hearS q = R := ⟨_, rfl⟩
  rw [hR]
  unfold Side.hearS at hR
  have HR := Lib.hid hR
  clear h hf hA hs hd hq hR hn
  obtain ⟨kind, nonce, frm, base, ins, ack, sum, Xq, cq⟩ := q
  dsimp only at DEC hk HR HNN
  obtain ⟨il, hil⟩ : ∃ x, ins.length = x := ⟨_, rfl⟩
  rw [hil] at DEC
  clear hil
  go_enter Tryz.func18, Tryz.ntmps18
  go_upto_region 3 with (fail)
  apply meetE (R := fun b X c wx => Below w.heap.size w wx ∧ w.heap.size ≤ b ∧ wx.heap[b]? = some (.cells #[.int .i64 kind, .int .i64 nonce, .int .i64 frm, .int .i64 base, .slice X il c, .int .i64 ack, .int .u64 sum] 57 (0, 0)))
  case h =>
    go_wp2_with fail
    refine DEC.out.mono ?_
    rintro e w1 ⟨hb, X, c, rfl⟩
    have HB := Lib.hid hb
    clear hb
    go_wp2_with fail
    have hN := heap_alloc_new w1 (.cells #[.int .i64 kind, .int .i64 nonce, .int .i64 frm, .int .i64 base, .slice X il c, .int .i64 ack, .int .u64 sum] 57)
    have hle := HB.out.size
    generalize w1.heap.size = B at hN hle ⊢
    exact ⟨B, X, c, rfl, below_one HB.out _, hle, hN⟩
  case k =>
    rintro b X c wx ⟨hb, hbn, hx⟩
    have L1 := Lib.hid ((PLeft.refl H.out).below hb)
    have k14 := L1.out.c 14 (.int .i64 P.phase) (fun _ _ _ => rfl)
    have k0 := L1.out.c 0 (.int .i64 P.now) (fun _ _ _ => rfl)
    have k5 := L1.out.c 5 (.int .i64 P.heard) (fun _ _ _ => rfl)
    have f5 := L1.out.f 5
    have hne : b ≠ pb := by have := H.out.lt; omega
    obtain ⟨⟨x0, -⟩, -⟩ := cells7 hx
    have hx2 : (wx.setCell ⟨pb, 5, none⟩ (.int .i64 P.now)).heap[b]? = _ := ((Kept.setCell wx pb 5 (.int .i64 P.now)).block b (Array.getElem?_eq_some_iff.1 hx).1 (by simpa using hne)).trans hx
    obtain ⟨⟨y0, -⟩, ⟨y1, -⟩, -, -, -, ⟨y5, -⟩, -⟩ := cells7 hx2
    clear hx hx2 hb hbn
    by_cases p3 : P.phase = 3
    · have E : Hid (P = R) := Lib.hid (by have := HR.out; rw [if_pos p3] at this; exact this)
      rw [p3] at k14
      clear p3 HR hk
      go_wp2_with fail
      go_ret
      rw [← E.out]
      exact ⟨rfl, L1.out⟩
    · have t3 : (P.phase == 3) = false := by simpa using p3
      have L2 := Lib.hid (L1.out.set 5 (.int .i64 P.now) (P' := { P with heard := P.now }) (fun _ => rfl) rfl rfl rfl rfl rfl rfl rfl rfl rfl rfl rfl)
      have HR2 := HR.out
      rw [if_neg p3] at HR2
      clear p3 HR
      rcases hk with rfl | rfl | rfl
      · have E := Lib.hid HR2
        rw [if_pos rfl] at HR2
        have SD := Lib.hid (L2.out.step (fun a1 h1 _ _ hfar => send_any h1 (GG.out.below (hfar w0 FF.out).1) (pkt 2 nonce 0 0 [] 0 0) (pkt_ok _ _ _ _ _ _ _ (in64_small (by omega)) (in64_small (by have := HNN.out; omega)) (in64_small (by omega)) (in64_small (by omega)) (in64_small (by omega)) (by omega)) HS.out.out))
        unfold Par.v pkt at SD
        dsimp only at SD
        have E := Lib.hid HR2
        clear HR2
        go_wp2_with fail
        refine SD.out.mono ?_
        rintro e w2 ⟨rfl, hd⟩
        have L3 := Lib.hid hd
        clear hd
        go_wp2_with fail
        go_ret
        rw [← E.out]
        exact ⟨rfl, L3.out⟩
      · rw [if_neg (by decide), if_pos rfl] at HR2
        have AN := Lib.hid (L2.out.step (fun a1 h1 _ _ hfar => answered_any h1 (hfar w0 FF.out) GG.out HS.out.out HS.out.ev HS.out.rounds nonce))
        have E := Lib.hid HR2
        clear HR2
        go_wp2_with fail
        refine AN.out.mono ?_
        rintro e w2 ⟨rfl, hd⟩
        have L3 := Lib.hid hd
        clear hd
        go_wp2_with fail
        go_ret
        rw [← E.out]
        exact ⟨rfl, L3.out⟩
      · rw [if_neg (by decide), if_neg (by decide)] at HR2
        have AK := Lib.hid (L2.out.step (fun a1 h1 _ _ hfar => ack_any h1 HS.out.mine.1 ack))
        have E := Lib.hid HR2
        clear HR2
        go_wp2_with fail
        refine AK.out.mono ?_
        rintro e w2 ⟨rfl, hd⟩
        have L3 := Lib.hid hd
        clear hd
        go_wp2_with fail
        go_ret
        rw [← E.out]
        exact ⟨rfl, L3.out⟩
end

end Go.Proofs.YtpidjmgapiekaaaGreatDoor
