/- This text proves what the strand's reference writes, over the loaded program. -/
import Derived.Test.YtgdbpicelnoacaaDoorRef
import Derived.Test.YtgdbpicelnoacaaDoorBoundsPlain
namespace Go.Proofs.YtgdbpicelnoacaaDoor
open Go.RowKit Go.WideShapes

theorem run_one_at (w : World) (g : Nat) (hg : g = w.heap.size) (v : Int) (x : UInt8) (h : v = (x.toNat : Int)) : (convert 67 9 (.slice (some ⟨g, 0, none⟩) 1 1)).run Tryd.prog (w.alloc (.cells #[.int .u8 v] 5)) = .ok (.string (strB [x])) (w.alloc (.cells #[.int .u8 v] 5)) := by
  subst hg; exact run_one w v x h

/-- What the reference's Write answers of what a writer holds. -/
def wcode : Option Nat → Int
  | none => 0
  | some 1 => 1
  | some _ => 4
def wres (W : Wri) : Ending := .returned (.tuple #[.string (if W.err = none then strB W.out else ⟨#[]⟩), .int .i64 (wcode W.err)])
theorem wres_err {l : List It} {W : Wri} {k j : Nat} (h : ((l.take k).foldl Wri.item W).err = some j) : wres (l.foldl Wri.item W) = .returned (.tuple #[.string ⟨#[]⟩, .int .i64 (wcode (some j))]) := by
  have e : l.foldl Wri.item W = (l.take k).foldl Wri.item W := by
    conv => lhs; rw [← List.take_append_drop k l, List.foldl_append]
    exact fold_bad _ h
  rw [wres, e, h]
  rfl
theorem fold_snoc {l : List It} {k : Nat} {x : It} (hx : l[k]? = some x) (W : Wri) : (l.take (k + 1)).foldl Wri.item W = ((l.take k).foldl Wri.item W).item x := by
  have hkl : k < l.length := (List.getElem?_eq_some_iff.1 hx).1
  rw [List.take_succ_eq_append_getElem hkl]
  rw [List.getElem?_eq_getElem hkl] at hx
  cases hx
  rw [List.foldl_append]
  rfl
/-- One item more, in the reference's own words. -/
theorem put_step {W : Wri} {x : It} (he : W.err = none) (hk : 1 ≤ x.kind ∧ x.kind ≤ 6) :
    (encI x = none → (W.item x).err = some 1) ∧ (∀ bs, encI x = some bs → (W.most < W.out.length + bs.length → (W.item x).err = some 2) ∧ (W.out.length + bs.length ≤ W.most → W.item x = { W with out := W.out ++ bs })) := by
  refine ⟨fun h => ?_, fun bs h => ⟨fun hl => ?_, fun hl => ?_⟩⟩
  · rw [Wri.item_ref h]; unfold Wri.refuse; rw [if_pos he]
  · rw [Wri.item_enc h hk]; unfold Wri.put; rw [if_pos he, if_pos (by omega)]
  · rw [Wri.item_enc h hk]; unfold Wri.put; rw [if_pos he, if_neg (by omega)]

set_option maxRecDepth 100000 in
set_option maxHeartbeats 3200000 in
theorem refWrite_any (w : World) (X : Option Addr) (l : List It) (c : Nat) (hI : Items w X l) (hl : l.length ≤ 60) (hx : ∀ x ∈ l, x.text.size ≤ 1000 ∧ x.fl.length ≤ 1000 ∧ 1 ≤ x.kind ∧ x.kind ≤ 6) (most : Int) (hm : In64 most) :
    Calls Tryd.prog 19 #[.int .i64 most, .slice X l.length c] w fun e w' => e = wres (l.foldl Wri.item (Wri.new most)) ∧ Below w.heap.size w w' := by
  obtain ⟨len, hlen⟩ : ∃ len, l.length = len := ⟨_, rfl⟩
  have LEN := Lib.hid hlen
  have II := Lib.hid hI
  have NH := Lib.hid hx
  rw [hlen] at hl ⊢
  obtain ⟨M, hM⟩ : ∃ M : Int, (if most < 0 then 0 else most) = M := ⟨_, rfl⟩
  have hM0 : 0 ≤ M ∧ M ≤ 9223372036854775807 := by rw [← hM]; have := hm.2; split <;> omega
  have WN : Hid (Wri.new most = { out := [], most := M, err := none }) := Lib.hid (by unfold Wri.new; rw [hM])
  have h2 := max2_int .i64 .i64 most 0
  have hmx : (if most < 0 then (0 : Int) else most) = M := hM
  obtain ⟨m0, m1⟩ := hM0
  clear hlen hI hx hM
  go_enter Tryd.func19, Tryd.ntmps19
  go_wp2_with fail
  go_loopw [6, 7] (fun ov iv wr => ∃ (k : Nat) (p : List UInt8), k ≤ len ∧ iv = .int .i64 k ∧ ov = .string (strB p) ∧ (l.take k).foldl Wri.item (Wri.new most) = { out := p, most := M, err := none } ∧ p.length ≤ 1010 * k ∧ Below w.heap.size w wr) (fun _ iv _ => len - (intOf iv).toNat)
  case atStart => exact ⟨0, [], Nat.zero_le _, rfl, rfl, WN.out, by simp, Below.refl _ _⟩
  case round =>
    obtain ⟨k, p, hk, rfl, rfl, hW, hp, hB⟩ := hrel
    have HW := Lib.hid hW
    have BB := Lib.hid hB
    clear hW hB
    by_cases hlt : k < len
    · obtain ⟨x, hx⟩ : ∃ x, l[k]? = some x := ⟨l[k]'(by rw [LEN.out]; exact hlt), by simp [show k < l.length by rw [LEN.out]; exact hlt]⟩
      obtain ⟨⟨b, o, rfl, h0, h1, h2', h3⟩, m1, m2, m3, m4, m5⟩ := (II.out.below BB.out) k x hx
      have hxm := NH.out x (List.mem_of_getElem? hx)
      have hst := put_step (W := { out := p, most := M, err := none }) (x := x) rfl hxm.2.2
      have hfs := fold_snoc hx (Wri.new most)
      rw [HW.out] at hfs
      rw [← hfs] at hst
      have hbl : ∀ bs, encI x = some bs → bs.length ≤ 1010 := fun bs h => enc_len h m2 hxm.1 hxm.2.1
      have i0 : (0 : Int) ≤ (k : Int) := by omega
      have i1 : (k : Int) < (len : Int) := by omega
      have i2 : (len : Int) ≤ 60 := by omega
      clear hfs hx
      obtain ⟨kind, n, text, fl, X', c'⟩ := x
      dsimp only at h0 h1 h2' h3 m1 m2 m3 m4 m5 hxm
      obtain ⟨x1, x2, x3, x4⟩ := hxm
      have ST := Lib.hid hst
      have BL := Lib.hid hbl
      have C5 := Lib.hid m5
      clear hst hbl m5
      have al := (Below.refl wr.heap.size wr).alloc (Nat.le_refl _) (.cells #[.int .i64 kind, .int .i64 n, .string text, .slice X' fl.length c'] 30)
      have A8 := Lib.hid (BB.out.trans (al.mono BB.out.size))
      have AL := Lib.hid al
      clear al
      have hks : kind = 1 ∨ kind = 2 ∨ kind = 3 ∨ kind = 4 ∨ kind = 5 ∨ kind = 6 := by omega
      rcases hks with rfl | rfl | rfl | rfl | rfl | rfl
      · by_cases hn : n < 0
        · have E := Lib.hid (ST.out.1 (by simp [encI, hn]))
          go_wp2_with fail
          go_ret2
          exact ⟨(wres_err E.out).symm, A8.out⟩
        · by_cases hn2 : 255 < n
          · have E := Lib.hid (ST.out.1 (by simp [encI, hn2]))
            go_wp2_with fail
            go_ret2
            exact ⟨(wres_err E.out).symm, A8.out⟩
          · have E := Lib.hid (ST.out.2 [UInt8.ofNat n.toNat] (by simp [encI]; omega))
            have L := BL.out [UInt8.ofNat n.toNat] (by simp [encI]; omega)
            obtain ⟨y, hy⟩ : ∃ y : UInt8, UInt8.ofNat n.toNat = y := ⟨_, rfl⟩
            have eu : IntKind.u8.wrap n = (y.toNat : Int) := by
              have e : ∀ x, IntKind.u8.wrap x = x % 256 := fun x => by simp [IntKind.wrap, IntKind.signed, IntKind.bits]
              rw [← hy, e, byte_ofNat (by omega)]; omega
            rw [hy] at E L
            clear hy
            have en : n = (y.toNat : Int) := by
              have e : ∀ x, IntKind.u8.wrap x = x % 256 := fun x => by simp [IntKind.wrap, IntKind.signed, IntKind.bits]
              rw [e] at eu; omega
            subst en
            have c1 := run_one_at (wr.alloc (.cells #[.int .i64 1, .int .i64 (y.toNat : Int), .string text, .slice X' fl.length c'] 30)) (wr.heap.size + 1) (by rw [size_alloc1]) (y.toNat : Int) y rfl
            have B4 := Lib.hid (below_one A8.out (.cells #[.int .u8 (y.toNat : Int)] 5))
            obtain ⟨bs, hbs⟩ : ∃ bs, [y] = bs := ⟨_, rfl⟩
            rw [hbs] at E L c1
            dsimp only at E
            clear hbs
            have s1 : ((strB p).size : Int) ≤ 100000 := by rw [strB_size]; omega
            have s2 : ((strB bs).size : Int) ≤ 100000 := by rw [strB_size]; omega
            have sm := small_cat p bs (by omega)
            by_cases hl2 : M < p.length + bs.length
            · have qd : M < ((strB p).size : Int) + ((strB bs).size : Int) := by rw [strB_size, strB_size]; exact hl2
              have E2 := Lib.hid (E.out.1 hl2)
              clear hl2
              go_wp2_with fail
              go_ret2
              exact ⟨(wres_err E2.out).symm, B4.out⟩
            · have qd : ¬ M < ((strB p).size : Int) + ((strB bs).size : Int) := by rw [strB_size, strB_size]; exact hl2
              have E2 := Lib.hid (E.out.2 (by omega))
              clear hl2
              go_wp2_with fail
              exact ⟨⟨k + 1, p ++ bs, by omega, by go_num, by rw [strB_append], E2.out, by rw [List.length_append]; omega, B4.out⟩, by simp [intOf]; omega⟩
      · by_cases hn : n < 0
        · have E := Lib.hid (ST.out.1 (by simp [encI, hn]))
          go_wp2_with fail
          go_ret2
          exact ⟨(wres_err E.out).symm, A8.out⟩
        · have E := Lib.hid (ST.out.2 (groupsL n.toNat) (by simp [encI, hn]))
          have L := BL.out (groupsL n.toNat) (by simp [encI, hn])
          obtain ⟨q, hq⟩ : ∃ q : Nat, n = q := ⟨n.toNat, by omega⟩
          subst hq
          rw [show ((q : Int)).toNat = q from rfl] at E L
          have hq63 : q < 9223372036854775808 := by have := m2.2; omega
          go_wp2_with fail
          refine (refCount_any q _ hq63).mono ?_
          rintro e w4 ⟨rfl, hb4⟩
          have B4 := Lib.hid (A8.out.trans (hb4.mono A8.out.size))
          clear hb4
          dsimp only
          obtain ⟨bs, hbs⟩ : ∃ bs, groupsL q = bs := ⟨_, rfl⟩
          rw [hbs] at E L ⊢
          clear hbs
          have s1 : ((strB p).size : Int) ≤ 100000 := by rw [strB_size]; omega
          have s2 : ((strB bs).size : Int) ≤ 100000 := by rw [strB_size]; omega
          have sm := small_cat p bs (by omega)
          by_cases hl2 : M < p.length + bs.length
          · have qd : M < ((strB p).size : Int) + ((strB bs).size : Int) := by rw [strB_size, strB_size]; exact hl2
            have E2 := Lib.hid (E.out.1 hl2)
            clear hl2
            go_wp2_with fail
            go_ret2
            exact ⟨(wres_err E2.out).symm, B4.out⟩
          · have qd : ¬ M < ((strB p).size : Int) + ((strB bs).size : Int) := by rw [strB_size, strB_size]; exact hl2
            have E2 := Lib.hid (E.out.2 (by omega))
            clear hl2
            go_wp2_with fail
            exact ⟨⟨k + 1, p ++ bs, by omega, by go_num, by rw [strB_append], E2.out, by rw [List.length_append]; omega, B4.out⟩, by simp [intOf]; omega⟩
      · have hn64 := Lib.hid m2
        have E := Lib.hid (ST.out.2 (groupsL (zig n)) (by simp [encI]))
        have L := BL.out (groupsL (zig n)) (by simp [encI])
        go_wp2_with fail
        refine (refNum_any n _ hn64.out).mono ?_
        rintro e w4 ⟨rfl, hb4⟩
        have B4 := Lib.hid (A8.out.trans (hb4.mono A8.out.size))
        clear hb4
        dsimp only
        obtain ⟨bs, hbs⟩ : ∃ bs, groupsL (zig n) = bs := ⟨_, rfl⟩
        rw [hbs] at E L ⊢
        clear hbs
        have s1 : ((strB p).size : Int) ≤ 100000 := by rw [strB_size]; omega
        have s2 : ((strB bs).size : Int) ≤ 100000 := by rw [strB_size]; omega
        have sm := small_cat p bs (by omega)
        by_cases hl2 : M < p.length + bs.length
        · have qd : M < ((strB p).size : Int) + ((strB bs).size : Int) := by rw [strB_size, strB_size]; exact hl2
          have E2 := Lib.hid (E.out.1 hl2)
          clear hl2
          go_wp2_with fail
          go_ret2
          exact ⟨(wres_err E2.out).symm, B4.out⟩
        · have qd : ¬ M < ((strB p).size : Int) + ((strB bs).size : Int) := by rw [strB_size, strB_size]; exact hl2
          have E2 := Lib.hid (E.out.2 (by omega))
          clear hl2
          go_wp2_with fail
          exact ⟨⟨k + 1, p ++ bs, by omega, by go_num, by rw [strB_append], E2.out, by rw [List.length_append]; omega, B4.out⟩, by simp [intOf]; omega⟩
      · have ht := Lib.hid x1
        have E := Lib.hid (ST.out.2 (textL text) (by simp [encI]))
        have L := BL.out (textL text) (by simp [encI])
        go_wp2_with fail
        refine (refText_any text _ (by have := ht.out; omega)).mono ?_
        rintro e w4 ⟨rfl, hb4⟩
        have B4 := Lib.hid (A8.out.trans (hb4.mono A8.out.size))
        clear hb4
        dsimp only
        obtain ⟨bs, hbs⟩ : ∃ bs, textL text = bs := ⟨_, rfl⟩
        rw [hbs] at E L ⊢
        clear hbs
        have s1 : ((strB p).size : Int) ≤ 100000 := by rw [strB_size]; omega
        have s2 : ((strB bs).size : Int) ≤ 100000 := by rw [strB_size]; omega
        have sm := small_cat p bs (by omega)
        by_cases hl2 : M < p.length + bs.length
        · have qd : M < ((strB p).size : Int) + ((strB bs).size : Int) := by rw [strB_size, strB_size]; exact hl2
          have E2 := Lib.hid (E.out.1 hl2)
          clear hl2
          go_wp2_with fail
          go_ret2
          exact ⟨(wres_err E2.out).symm, B4.out⟩
        · have qd : ¬ M < ((strB p).size : Int) + ((strB bs).size : Int) := by rw [strB_size, strB_size]; exact hl2
          have E2 := Lib.hid (E.out.2 (by omega))
          clear hl2
          go_wp2_with fail
          exact ⟨⟨k + 1, p ++ bs, by omega, by go_num, by rw [strB_append], E2.out, by rw [List.length_append]; omega, B4.out⟩, by simp [intOf]; omega⟩
      · obtain ⟨q, hq⟩ : ∃ q : Nat, (n % 4294967296).toNat = q := ⟨_, rfl⟩
        have E := Lib.hid (ST.out.2 (groupsL (n % 4294967296).toNat) (by simp [encI]))
        have L := BL.out (groupsL (n % 4294967296).toNat) (by simp [encI])
        rw [hq] at E L
        have e5 : IntKind.u32.wrap n = (q : Int) := by
          have e : ∀ x, IntKind.u32.wrap x = x % 4294967296 := fun x => by simp [IntKind.wrap, IntKind.signed, IntKind.bits]
          rw [e]; omega
        have e6 : IntKind.i64.wrap (q : Int) = (q : Int) := IntWalk.i64_in _ (by omega)
        have hq63 : q < 9223372036854775808 := by omega
        clear hq
        go_wp2_with fail
        refine (refCount_any q _ hq63).mono ?_
        rintro e w4 ⟨rfl, hb4⟩
        have B4 := Lib.hid (A8.out.trans (hb4.mono A8.out.size))
        clear hb4
        dsimp only
        obtain ⟨bs, hbs⟩ : ∃ bs, groupsL q = bs := ⟨_, rfl⟩
        rw [hbs] at E L ⊢
        clear hbs
        have s1 : ((strB p).size : Int) ≤ 100000 := by rw [strB_size]; omega
        have s2 : ((strB bs).size : Int) ≤ 100000 := by rw [strB_size]; omega
        have sm := small_cat p bs (by omega)
        by_cases hl2 : M < p.length + bs.length
        · have qd : M < ((strB p).size : Int) + ((strB bs).size : Int) := by rw [strB_size, strB_size]; exact hl2
          have E2 := Lib.hid (E.out.1 hl2)
          clear hl2
          go_wp2_with fail
          go_ret2
          exact ⟨(wres_err E2.out).symm, B4.out⟩
        · have qd : ¬ M < ((strB p).size : Int) + ((strB bs).size : Int) := by rw [strB_size, strB_size]; exact hl2
          have E2 := Lib.hid (E.out.2 (by omega))
          clear hl2
          go_wp2_with fail
          exact ⟨⟨k + 1, p ++ bs, by omega, by go_num, by rw [strB_append], E2.out, by rw [List.length_append]; omega, B4.out⟩, by simp [intOf]; omega⟩
      · have hf := Lib.hid x2
        have E := Lib.hid (ST.out.2 (flagsL fl) (by simp [encI]))
        have L := BL.out (flagsL fl) (by simp [encI])
        go_wp2_with fail
        refine (refFlags_any X' c' fl _ (C5.out.below AL.out) (by have := hf.out; omega)).mono ?_
        rintro e w4 ⟨rfl, hb4⟩
        have B4 := Lib.hid (A8.out.trans (hb4.mono A8.out.size))
        clear hb4
        dsimp only
        obtain ⟨bs, hbs⟩ : ∃ bs, flagsL fl = bs := ⟨_, rfl⟩
        rw [hbs] at E L ⊢
        clear hbs
        have s1 : ((strB p).size : Int) ≤ 100000 := by rw [strB_size]; omega
        have s2 : ((strB bs).size : Int) ≤ 100000 := by rw [strB_size]; omega
        have sm := small_cat p bs (by omega)
        by_cases hl2 : M < p.length + bs.length
        · have qd : M < ((strB p).size : Int) + ((strB bs).size : Int) := by rw [strB_size, strB_size]; exact hl2
          have E2 := Lib.hid (E.out.1 hl2)
          clear hl2
          go_wp2_with fail
          go_ret2
          exact ⟨(wres_err E2.out).symm, B4.out⟩
        · have qd : ¬ M < ((strB p).size : Int) + ((strB bs).size : Int) := by rw [strB_size, strB_size]; exact hl2
          have E2 := Lib.hid (E.out.2 (by omega))
          clear hl2
          go_wp2_with fail
          exact ⟨⟨k + 1, p ++ bs, by omega, by go_num, by rw [strB_append], E2.out, by rw [List.length_append]; omega, B4.out⟩, by simp [intOf]; omega⟩
    · obtain rfl : k = len := by omega
      have hW := HW.out
      rw [List.take_of_length_le (by rw [LEN.out]; exact Nat.le_refl _)] at hW
      have FW := Lib.hid hW
      clear hW hlt
      go_wp2_with fail
      go_ret2
      exact ⟨by rw [FW.out]; rfl, BB.out⟩

end Go.Proofs.YtgdbpicelnoacaaDoor
