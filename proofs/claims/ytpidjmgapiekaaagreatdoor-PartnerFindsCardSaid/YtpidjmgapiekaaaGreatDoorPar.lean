/- This text proves what the parcel's packets compute, over the loaded program: their comparison. -/
import Derived.Test.YtpidjmgapiekaaaGreatDoorMisc
namespace Go.Proofs.YtpidjmgapiekaaaGreatDoor
open Go.RowKit Go.WideShapes
set_option linter.unusedSimpArgs false

/-- A packet, and where its inputs lie. -/
structure Par where
  kind : Int
  nonce : Int
  frm : Int
  base : Int
  ins : List Int
  ack : Int
  sum : Int
  X : Option Addr
  c : Nat
def iv (l : List Int) : List Value := l.map (Value.int .i64)
theorem iv_len (l : List Int) : (iv l).length = l.length := by simp [iv]
def Par.v (p : Par) : Value := .agg #[.int .i64 p.kind, .int .i64 p.nonce, .int .i64 p.frm, .int .i64 p.base, .slice p.X p.ins.length p.c, .int .i64 p.ack, .int .u64 p.sum]
/-- A packet's fields are numbers of their kinds, its inputs lie there. -/
def Par.ok (w : World) (p : Par) : Prop := In64 p.kind ∧ In64 p.nonce ∧ In64 p.frm ∧ In64 p.base ∧ In64 p.ack ∧ (0 ≤ p.sum ∧ p.sum < 18446744073709551616) ∧ p.ins.length ≤ 1000000 ∧ (∀ x ∈ p.ins, In64 x) ∧ Cells w p.X (iv p.ins)
theorem Par.ok.below {w w' : World} {p : Par} (h : p.ok w) (hb : Below w.heap.size w w') : p.ok w' := by
  obtain ⟨h1, h2, h3, h4, h5, h6, h7, h8, h9⟩ := h
  exact ⟨h1, h2, h3, h4, h5, h6, h7, h8, h9.below hb⟩

/-- within. -/
def within (n low high : Int) : Bool := decide (low ≤ n) && decide (n ≤ high)
theorem within_any (n low high : Int) (w : World) : Calls Tryz.prog 147 #[.int .i64 n, .int .i64 low, .int .i64 high] w fun e w' => e = .returned (.bool (within n low high)) ∧ w = w' := by
  unfold within
  by_cases h : low ≤ n
  · rw [decide_eq_true h]
    go_enter Tryz.func147, Tryz.ntmps147
    go_wp2
    go_ret
    exact ⟨rfl, rfl⟩
  · rw [decide_eq_false h]
    have q : decide (low ≤ n) = false := by simpa using h
    clear h
    go_enter Tryz.func147, Tryz.ntmps147
    go_wp2
    go_ret
    exact ⟨rfl, rfl⟩

set_option maxRecDepth 100000 in
set_option maxHeartbeats 3200000 in
/-- Two rows of numbers are the same. -/
theorem equal_any (X Y : Option Addr) (l m : List Int) (c d : Nat) (w : World) (ha : Cells w X (iv l)) (hb : Cells w Y (iv m)) (hl : l.length ≤ 1000000) : Calls Tryz.prog 149 #[.slice X l.length c, .slice Y m.length d] w fun e w' => e = .returned (.bool (decide (l = m))) ∧ Below w.heap.size w w' := by
  obtain ⟨r, hr⟩ : ∃ r, decide (l = m) = r := ⟨_, rfl⟩
  rw [hr]
  obtain ⟨len, hlen⟩ : ∃ len, l.length = len := ⟨_, rfl⟩
  obtain ⟨lem, hlem⟩ : ∃ lem, m.length = lem := ⟨_, rfl⟩
  rw [hlen] at hl ⊢
  rw [hlem]
  have CA := Lib.hid ha
  have CB := Lib.hid hb
  have LN := Lib.hid (And.intro hlen hlem)
  have RR := Lib.hid hr
  clear ha hb hlen hlem hr
  by_cases h4 : len = lem
  · subst h4
    have L4 : Hid (l.length = m.length) := Lib.hid (LN.out.1.trans LN.out.2.symm)
    have b0 : (len : Int) ≤ 1000000 := by omega
    go_enter Tryz.func149, Tryz.ntmps149
    go_wp2_with fail
    go_loopw [13] (fun kv wr => ∃ k : Nat, k ≤ len ∧ kv = .int .i64 k ∧ Below w.heap.size w wr ∧ ∀ j, j < k → l[j]? = m[j]?) (fun kv _ => len - (intOf kv).toNat)
    case atStart => exact ⟨0, Nat.zero_le _, rfl, Below.refl _ _, fun j hj => by omega⟩
    case round =>
      obtain ⟨k, hk, rfl, hB, hE⟩ := hrel
      have BB := Lib.hid hB
      have EE := Lib.hid hE
      clear hB hE
      by_cases hlt : k < len
      · obtain ⟨x, hx⟩ : ∃ x, l[k]? = some x := ⟨l[k]'(by rw [LN.out.1]; exact hlt), by simp [show k < l.length by rw [LN.out.1]; exact hlt]⟩
        obtain ⟨y, hy⟩ : ∃ y, m[k]? = some y := ⟨m[k]'(by rw [LN.out.2]; exact hlt), by simp [show k < m.length by rw [LN.out.2]; exact hlt]⟩
        obtain ⟨xb, xo, rfl, hc⟩ := (CA.out.below BB.out) k (.int .i64 x) (by simp [iv, hx])
        obtain ⟨yb, yo, rfl, hc'⟩ := (CB.out.below BB.out) k (.int .i64 y) (by simp [iv, hy])
        have i0 : (0 : Int) ≤ (k : Int) := by omega
        have i1 : (k : Int) < (len : Int) := by omega
        have XY := Lib.hid (And.intro hx hy)
        clear hx hy
        by_cases hxy : x = y
        · subst hxy
          go_wp2_with fail
          go_quiet (fail)
          go_wp2_with fail
          exact ⟨⟨k + 1, by omega, by go_num, BB.out.trans ⟨rfl, rfl, rfl, Nat.le_refl _, fun _ _ => rfl⟩, fun j hj => by
            by_cases h : j = k
            · subst h; rw [XY.out.1, XY.out.2]
            · exact EE.out j (by omega)⟩, by simp [intOf]; omega⟩
        · have q : (x == y) = false := by simpa using hxy
          have R0 : Hid (r = false) := Lib.hid (by
            rw [← RR.out]
            apply decide_eq_false
            intro h
            have h1 := XY.out.1
            rw [h, XY.out.2] at h1
            cases h1
            exact hxy rfl)
          clear hxy
          go_wp2_with fail
          go_quiet (fail)
          go_wp2_with fail
          go_ret
          exact ⟨by rw [R0.out]; rfl, BB.out.trans ⟨rfl, rfl, rfl, Nat.le_refl _, fun _ _ => rfl⟩⟩
      · obtain rfl : k = len := by omega
        have R0 : Hid (r = true) := Lib.hid (by
          rw [← RR.out]
          apply decide_eq_true
          apply List.ext_getElem?
          intro j
          by_cases h : j < k
          · exact EE.out j h
          · rw [List.getElem?_eq_none (by have := LN.out.1; omega), List.getElem?_eq_none (by have := LN.out.2; omega)])
        go_wp2_with fail
        go_ret
        exact ⟨by rw [R0.out]; rfl, BB.out⟩
  · have R0 : Hid (r = false) := Lib.hid (by rw [← RR.out]; simp; intro h; exact h4 (by rw [← LN.out.1, ← LN.out.2, h]))
    have q : ((len : Int) != (lem : Int)) = true := by simp; omega
    clear h4
    go_enter Tryz.func149, Tryz.ntmps149
    go_wp2_with fail
    go_ret
    exact ⟨by rw [R0.out]; rfl, Below.refl _ _⟩

/-- Same. -/
def Par.same (a b : Par) : Bool := decide (a.kind = b.kind) && decide (a.nonce = b.nonce) && decide (a.frm = b.frm) && decide (a.base = b.base) && decide (a.ack = b.ack) && decide (a.sum = b.sum) && decide (a.ins = b.ins)
set_option maxRecDepth 100000 in
set_option maxHeartbeats 3200000 in
theorem psame_any (a b : Par) (w : World) (ha : Cells w a.X (iv a.ins)) (hb : Cells w b.X (iv b.ins)) (hl : a.ins.length ≤ 1000000) : Calls Tryz.prog 122 #[a.v, b.v] w fun e w' => e = .returned (.bool (a.same b)) ∧ Below w.heap.size w w' := by
  obtain ⟨kind, nonce, frm, base, ins, ack, sum, X, c⟩ := a
  obtain ⟨kind', nonce', frm', base', ins', ack', sum', X', c'⟩ := b
  dsimp only at ha hb hl
  unfold Par.same Par.v
  dsimp only
  obtain ⟨r, hr⟩ : ∃ r, (decide (kind = kind') && decide (nonce = nonce') && decide (frm = frm') && decide (base = base') && decide (ack = ack') && decide (sum = sum') && decide (ins = ins')) = r := ⟨_, rfl⟩
  rw [hr]
  have hbt := below_two w (.cells #[.int .i64 kind, .int .i64 nonce, .int .i64 frm, .int .i64 base, .slice X ins.length c, .int .i64 ack, .int .u64 sum] 57) (.cells #[.int .i64 kind', .int .i64 nonce', .int .i64 frm', .int .i64 base', .slice X' ins'.length c', .int .i64 ack', .int .u64 sum'] 57)
  by_cases h0 : kind = kind'
  case neg =>
    have R : Hid (r = false) := Lib.hid (by rw [← hr]; simp [h0])
    have q : (kind == kind') = false := by simpa using h0
    have F0 := Lib.hid hbt
    clear hr hbt ha hb h0
    go_enter Tryz.func122, Tryz.ntmps122
    go_wp2_with fail
    go_ret
    exact ⟨by rw [R.out]; rfl, F0.out⟩
  subst h0
  by_cases h1 : nonce = nonce'
  case neg =>
    have R : Hid (r = false) := Lib.hid (by rw [← hr]; simp [h1])
    have q : (nonce == nonce') = false := by simpa using h1
    have F0 := Lib.hid hbt
    clear hr hbt ha hb h1
    go_enter Tryz.func122, Tryz.ntmps122
    go_wp2_with fail
    go_ret
    exact ⟨by rw [R.out]; rfl, F0.out⟩
  subst h1
  by_cases h2 : frm = frm'
  case neg =>
    have R : Hid (r = false) := Lib.hid (by rw [← hr]; simp [h2])
    have q : (frm == frm') = false := by simpa using h2
    have F0 := Lib.hid hbt
    clear hr hbt ha hb h2
    go_enter Tryz.func122, Tryz.ntmps122
    go_wp2_with fail
    go_ret
    exact ⟨by rw [R.out]; rfl, F0.out⟩
  subst h2
  by_cases h3 : base = base'
  case neg =>
    have R : Hid (r = false) := Lib.hid (by rw [← hr]; simp [h3])
    have q : (base == base') = false := by simpa using h3
    have F0 := Lib.hid hbt
    clear hr hbt ha hb h3
    go_enter Tryz.func122, Tryz.ntmps122
    go_wp2_with fail
    go_ret
    exact ⟨by rw [R.out]; rfl, F0.out⟩
  subst h3
  by_cases h4 : ack = ack'
  case neg =>
    have R : Hid (r = false) := Lib.hid (by rw [← hr]; simp [h4])
    have q : (ack == ack') = false := by simpa using h4
    have F0 := Lib.hid hbt
    clear hr hbt ha hb h4
    go_enter Tryz.func122, Tryz.ntmps122
    go_wp2_with fail
    go_ret
    exact ⟨by rw [R.out]; rfl, F0.out⟩
  subst h4
  by_cases h5 : sum = sum'
  case neg =>
    have R : Hid (r = false) := Lib.hid (by rw [← hr]; simp [h5])
    have q : (sum == sum') = false := by simpa using h5
    have F0 := Lib.hid hbt
    clear hr hbt ha hb h5
    go_enter Tryz.func122, Tryz.ntmps122
    go_wp2_with fail
    go_ret
    exact ⟨by rw [R.out]; rfl, F0.out⟩
  subst h5
  have R : Hid (decide (ins = ins') = r) := Lib.hid (by rw [← hr]; simp)
  have F0 := Lib.hid hbt
  have E := Lib.hid (equal_any X X' ins ins' c c' _ (ha.below hbt) (hb.below hbt) hl)
  clear hr hbt ha hb
  go_enter Tryz.func122, Tryz.ntmps122
  go_wp2_with fail
  refine E.out.mono ?_
  rintro e w1 ⟨rfl, hb1⟩
  rw [R.out]
  have B1 := Lib.hid (F0.out.trans (hb1.mono F0.out.size))
  clear hb1
  go_wp2_with fail
  go_ret
  exact ⟨rfl, B1.out⟩

end Go.Proofs.YtpidjmgapiekaaaGreatDoor
