/- This text says in plain words what a packet's bytes tell: what was written is read as it was, what is read was written so. No program. -/
import Derived.Test.YtpidjmgapiekaaaGreatDoorDec2
import Derived.Test.YtpidjmgapiekaaaGreatDoorEnc4
import Derived.Test.YtpidjmgapiekaaaGreatDoorMisc2
namespace Go.Proofs.YtpidjmgapiekaaaGreatDoor

/-- What Decode tells of bytes that are no packet: the number of the error. -/
def decErr (l : List UInt8) : Option Nat :=
  if 512 < l.length then some 2 else if l.length < 6 ∨ l.getD 0 0 ≠ 80 then some 0 else
  if sum4 (l.take (l.length - 4)) ≠ l.drop (l.length - 4) then some 4 else none
/-- The reader of a packet's bytes, its kind and its fields. -/
def decM (l : List UInt8) : List UInt8 := (l.take (l.length - 4)).drop 1
def decB (l : List UInt8) : Rdr × Nat := (Rdr.mk (decM l) false).byte
def decQ (l : List UInt8) : Rdr × Flds := (decB l).1.body ((decB l).2 : Int)
def Flds.par (f : Flds) (k : Int) (X : Option Addr) (c : Nat) : Par := ⟨k, f.nonce, f.frm, f.base, f.ins, f.ack, f.sum, X, c⟩
def decPar (l : List UInt8) : Par := (decQ l).2.par ((decB l).2 : Int) none 0
def decOk (l : List UInt8) : Bool := (decErr l).isNone && ((decQ l).1.right && (decPar l).good)

/-- Whether a packet can be, and its bytes, don't hang on where its inputs lie. -/
theorem good_par (f : Flds) (k : Int) (X : Option Addr) (c : Nat) : (f.par k X c).good = (f.par k none 0).good := by
  have e : (f.par k X c).isIn = (f.par k none 0).isIn := rfl
  unfold Par.good Par.own
  rw [e]
  generalize (f.par k none 0).isIn = i
  unfold Flds.par
  dsimp only
  repeat' split
  all_goals rfl
def Par.flds (p : Par) : Flds := ⟨p.nonce, p.frm, p.base, p.ins, p.ack, p.sum⟩
theorem par_eq (p : Par) : p = p.flds.par p.kind p.X p.c := rfl
theorem good_flds (p : Par) : p.good = (p.flds.par p.kind none 0).good := by rw [par_eq p]; exact good_par _ _ _ _
theorem encP_flds (p : Par) : encP p = encP (p.flds.par p.kind none 0) := rfl
theorem same_iff {a b : Par} : a.same b = true ↔ a.kind = b.kind ∧ a.flds = b.flds := by
  obtain ⟨k, n, f, b1, i, ac, s, X, c⟩ := a
  obtain ⟨k', n', f', b1', i', ac', s', X', c'⟩ := b
  simp only [Par.same, Par.flds, Bool.and_eq_true, decide_eq_true_eq, Flds.mk.injEq]
  constructor
  · rintro ⟨⟨⟨⟨⟨⟨h1, h2⟩, h3⟩, h4⟩, h5⟩, h6⟩, h7⟩; exact ⟨h1, h2, h3, h4, h7, h5, h6⟩
  · rintro ⟨h1, h2, h3, h4, h7, h5, h6⟩; exact ⟨⟨⟨⟨⟨⟨h1, h2⟩, h3⟩, h4⟩, h5⟩, h6⟩, h7⟩

/-! What was written is read. -/
theorem byte_back {R : Rdr} (hb : R.bad = false) (x : Int) (t : List UInt8) (h0 : 0 ≤ x) (h1 : x ≤ 255) (hr : R.rest = UInt8.ofNat x.toNat :: t) : R.byte.1 = ⟨t, false⟩ ∧ (R.byte.2 : Int) = x := by
  unfold Rdr.byte
  rw [hb, hr]
  have : (UInt8.ofNat x.toNat).toNat = x.toNat := by rw [UInt8.toNat_ofNat']; omega
  simp only [Bool.false_eq_true, if_false, this]
  exact ⟨trivial, by omega⟩
theorem count_back {R : Rdr} (hb : R.bad = false) (x : Int) (t : List UInt8) (h0 : 0 ≤ x) (h1 : x ≤ 9223372036854775807) (hr : R.rest = groupsL x.toNat ++ t) : R.count.1 = ⟨t, false⟩ ∧ (R.count.2 : Int) = x := by
  have := number_groups hb x.toNat 9223372036854775807 t hr (by omega) (by omega)
  unfold Rdr.count
  rw [this]
  exact ⟨rfl, by simp; omega⟩
theorem num_back {R : Rdr} (hb : R.bad = false) (x : Int) (t : List UInt8) (h : In64 x) (hr : R.rest = groupsL (zig x) ++ t) : R.num.1 = ⟨t, false⟩ ∧ R.num.2 = x := by
  have hz := zig_lt x h
  have := number_groups hb (zig x) 18446744073709551615 t hr (by omega) (by omega)
  unfold Rdr.num
  rw [this]
  exact ⟨rfl, by simp [unzig_zig]⟩
theorem flags_back {R : Rdr} (hb : R.bad = false) (fl : List Bool) (t : List UInt8) (hl : fl.length ≤ 1000) (hr : R.rest = flagsL fl ++ t) : R.flags (fl.length : Int) = (⟨t, false⟩, fl) := by
  obtain ⟨m, hm⟩ : ∃ m, (fl.length + 7) / 8 = m := ⟨_, rfl⟩
  have hfl : (flagsL fl).length = m := by rw [flagsL_len, hm]
  have hbit : ∀ j, j < 8 * m → bitOf R.rest j = fl.getD j false := fun j hj => by rw [hr]; exact bitOf_flags fl t j (by rw [hm]; exact hj)
  have hov : overF R.rest fl.length m = false := by
    unfold overF
    rw [List.any_eq_false]
    intro j hj
    rw [List.mem_range] at hj
    rw [hbit j hj]
    by_cases h : fl.length ≤ j
    · rw [List.getD_eq_getElem?_getD, List.getElem?_eq_none h]; simp
    · simp [h]
  have hfo : flagsOf R.rest fl.length (8 * m) = fl := by
    apply List.ext_getElem
    · rw [flagsOf_len]
    · intro j h1 h2
      simp only [flagsOf, List.getElem_map, List.getElem_range]
      rw [decide_eq_true (show j < 8 * m by omega), hbit j (by omega), List.getD_eq_getElem?_getD, List.getElem?_eq_getElem h2]
      rfl
  have hlen : ¬ R.rest.length < m := by rw [hr, List.length_append, hfl]; omega
  have hdrop : R.rest.drop m = t := by rw [hr, ← hfl]; simp
  unfold Rdr.flags
  rw [hb]
  simp only [Bool.false_eq_true, if_false, Int.toNat_natCast, hm]
  rw [if_neg (by omega), hov]
  simp only [Bool.false_eq_true, if_false, hfo, hdrop]
theorem insF_back : ∀ (l : List Int) (R : Rdr) (b : Int) (acc : List Int) (t : List UInt8), R.bad = false → (∀ x ∈ l, 0 ≤ x ∧ x ≤ 255) → R.rest = insL b l ++ t →
    ∃ b', (turnsL b l).foldl stepF (R, b, acc) = (⟨t, false⟩, b', acc ++ l)
  | [], R, b, acc, t, hb, _, hr => by
    obtain ⟨rest, bad⟩ := R
    dsimp only at hb hr
    subst hb
    exact ⟨b, by simp [turnsL, insL] at hr ⊢; exact hr⟩
  | x :: r, R, b, acc, t, hb, hx, hr => by
    obtain ⟨x0, x1⟩ := hx x (by simp)
    rw [turnsL, List.foldl_cons]
    by_cases hn : (x != b) = true
    · rw [hn]
      rw [insL, if_pos hn, List.append_assoc] at hr
      obtain ⟨h1, h2⟩ := byte_back hb x (insL x r ++ t) x0 x1 (by simpa using hr)
      have hne : ¬ x = b := by simpa using hn
      have e : stepF (R, b, acc) true = (⟨insL x r ++ t, false⟩, x, acc ++ [x]) := by
        unfold stepF
        rw [if_pos rfl]
        dsimp only
        rw [h1, h2, if_neg hne]
      rw [e]
      obtain ⟨b', h⟩ := insF_back r ⟨insL x r ++ t, false⟩ x (acc ++ [x]) t rfl (fun y hy => hx y (by simp [hy])) rfl
      exact ⟨b', by rw [h]; simp⟩
    · have he : x = b := by simpa using hn
      rw [insL, if_neg hn, List.nil_append] at hr
      have hf : (x != b) = false := by simpa using hn
      rw [hf]
      subst he
      have e : stepF (R, x, acc) false = (R, x, acc ++ [x]) := rfl
      rw [e]
      obtain ⟨b', h⟩ := insF_back r R x (acc ++ [x]) t hb (fun y hy => hx y (by simp [hy])) hr
      exact ⟨b', by rw [h]; simp⟩

theorem sum_back (s : Int) (h0 : 0 ≤ s) (h1 : s < 18446744073709551616) : IntKind.u64.wrap (IntKind.i64.wrap s) = s := by
  simp [IntKind.wrap, IntKind.signed, IntKind.bits]
  split <;> omega

/-- What good says of a packet's fields. -/
theorem good_fields {p : Par} (h : p.good = true) :
    ((p.kind = 1 ∨ p.kind = 2) ∧ (0 ≤ p.nonce ∧ p.nonce ≤ 4294967295) ∧ p.flds = ⟨p.nonce, 0, 0, [], 0, 0⟩) ∨
    (p.kind = 3 ∧ p.isIn = true ∧ (0 ≤ p.ack ∧ p.ack ≤ 1073741824) ∧ p.flds = ⟨0, p.frm, p.base, p.ins, p.ack, 0⟩) ∨
    (p.kind = 4 ∧ (0 ≤ p.frm ∧ p.frm ≤ 1073741824) ∧ p.flds = ⟨0, p.frm, 0, [], 0, p.sum⟩) ∨
    (p.kind = 5 ∧ (0 ≤ p.ack ∧ p.ack ≤ 1073741824) ∧ p.flds = ⟨0, 0, 0, [], p.ack, 0⟩) ∨
    (p.kind = 6 ∧ (0 ≤ p.frm ∧ p.frm ≤ 1073741824) ∧ p.flds = ⟨0, p.frm, 0, [], 0, 0⟩) := by
  have hk := good_kind h
  unfold Par.good Par.own at h
  rw [Bool.and_eq_true] at h
  obtain ⟨h, hs⟩ := h
  by_cases k1 : p.kind = 1 ∨ p.kind = 2
  · rw [if_pos k1] at h hs
    exact .inl ⟨k1, within_iff.1 h, (same_iff.1 hs).2⟩
  rw [if_neg k1] at h hs
  by_cases k4 : p.kind = 4
  · rw [if_pos k4] at h hs
    exact .inr (.inr (.inl ⟨k4, within_iff.1 h, (same_iff.1 hs).2⟩))
  rw [if_neg k4] at h hs
  by_cases k6 : p.kind = 6
  · rw [if_pos k6] at h hs
    exact .inr (.inr (.inr (.inr ⟨k6, within_iff.1 h, (same_iff.1 hs).2⟩)))
  rw [if_neg k6] at h hs
  by_cases k3 : p.kind = 3
  · rw [if_pos k3] at h hs
    by_cases hi : p.isIn = true
    · rw [if_pos hi] at h hs
      exact .inr (.inl ⟨k3, hi, within_iff.1 h, (same_iff.1 hs).2⟩)
    · rw [if_neg hi] at h; cases h
  rw [if_neg k3] at h hs
  by_cases k5 : p.kind = 5
  · rw [if_pos k5] at h hs
    exact .inr (.inr (.inr (.inl ⟨k5, within_iff.1 h, (same_iff.1 hs).2⟩)))
  omega

theorem body_back {p : Par} (h : p.good = true) (hs : 0 ≤ p.sum ∧ p.sum < 18446744073709551616) : (Rdr.mk (bodyL p) false).body p.kind = (⟨[], false⟩, p.flds) := by
  rcases good_fields h with ⟨k, ⟨n0, n1⟩, hf⟩ | ⟨k, hi, ⟨a0, a1⟩, hf⟩ | ⟨k, ⟨f0, f1⟩, hf⟩ | ⟨k, ⟨a0, a1⟩, hf⟩ | ⟨k, ⟨f0, f1⟩, hf⟩
  · obtain ⟨h1, h2⟩ := count_back (R := ⟨bodyL p, false⟩) rfl p.nonce [] n0 (by omega) (by unfold bodyL; rw [if_pos k]; simp)
    unfold Rdr.body
    rw [if_pos k, h1, h2, hf]
  · obtain ⟨⟨l0, l1⟩, ⟨b0, b1⟩, ⟨f0, f1⟩, hx⟩ := isIn_of hi
    have e : bodyL p = groupsL p.frm.toNat ++ (groupsL p.ack.toNat ++ (UInt8.ofNat p.base.toNat :: (groupsL (p.ins.length : Int).toNat ++ (flagsL (turnsL p.base p.ins) ++ (insL p.base p.ins ++ []))))) := by
      unfold bodyL
      rw [if_neg (by omega), if_pos k]
      simp
    obtain ⟨h1, h2⟩ := count_back (R := ⟨bodyL p, false⟩) rfl p.frm _ (by omega) (by omega) e
    obtain ⟨h3, h4⟩ := count_back (R := ⟨_, false⟩) rfl p.ack _ a0 (by omega) rfl
    obtain ⟨h5, h6⟩ := byte_back (R := ⟨_, false⟩) rfl p.base _ b0 b1 rfl
    obtain ⟨h7, h8⟩ := count_back (R := ⟨_, false⟩) rfl (p.ins.length : Int) (flagsL (turnsL p.base p.ins) ++ (insL p.base p.ins ++ [])) (by omega) (by omega) rfl
    have h9 := flags_back (R := ⟨_, false⟩) rfl (turnsL p.base p.ins) (insL p.base p.ins ++ []) (by rw [turnsL_len]; omega) rfl
    rw [turnsL_len] at h9
    obtain ⟨b', h10⟩ := insF_back p.ins ⟨insL p.base p.ins ++ [], false⟩ p.base [] [] rfl hx rfl
    have hI : (Rdr.mk (flagsL (turnsL p.base p.ins) ++ (insL p.base p.ins ++ [])) false).inputs p.base (p.ins.length : Int) = (⟨[], false⟩, p.ins) := by
      unfold Rdr.inputs Rdr.insF
      rw [if_neg (by omega), h9]
      dsimp only
      rw [h10]
      simp
    unfold Rdr.body
    rw [if_neg (by omega), if_pos k]
    dsimp only
    rw [h1, h2, h3, h4, h5, h6, h7, h8, hI, hf]
  · have e : bodyL p = groupsL p.frm.toNat ++ (groupsL (zig (IntKind.i64.wrap p.sum)) ++ []) := by
      unfold bodyL
      rw [if_neg (by omega), if_neg (by omega), if_pos k]
      simp
    obtain ⟨h1, h2⟩ := count_back (R := ⟨bodyL p, false⟩) rfl p.frm _ (by omega) (by omega) e
    obtain ⟨h3, h4⟩ := num_back (R := ⟨_, false⟩) rfl (IntKind.i64.wrap p.sum) [] (wrap_in64' _) rfl
    unfold Rdr.body
    rw [if_neg (by omega), if_neg (by omega), if_pos k]
    rw [h1, h2, h3, h4, sum_back _ hs.1 hs.2, hf]
  · obtain ⟨h1, h2⟩ := count_back (R := ⟨bodyL p, false⟩) rfl p.ack [] a0 (by omega) (by unfold bodyL; rw [if_neg (by omega), if_neg (by omega), if_neg (by omega), if_pos k]; simp)
    unfold Rdr.body
    rw [if_neg (by omega), if_neg (by omega), if_neg (by omega), if_pos k, h1, h2, hf]
  · obtain ⟨h1, h2⟩ := count_back (R := ⟨bodyL p, false⟩) rfl p.frm [] f0 (by omega) (by unfold bodyL; rw [if_neg (by omega), if_neg (by omega), if_neg (by omega), if_neg (by omega), if_pos k]; simp)
    unfold Rdr.body
    rw [if_neg (by omega), if_neg (by omega), if_neg (by omega), if_neg (by omega), if_pos k, h1, h2, hf]

theorem encP_len (p : Par) : (encP p).length = (bodyL p).length + 6 := by simp [encP, sum4_len, bareL]
theorem encP_take (p : Par) : (encP p).take ((encP p).length - 4) = bareL p := by
  have : (encP p).length - 4 = (bareL p).length := by simp [encP, sum4_len]
  rw [this, encP]
  simp
theorem encP_drop (p : Par) : (encP p).drop ((encP p).length - 4) = sum4 (bareL p) := by
  have : (encP p).length - 4 = (bareL p).length := by simp [encP, sum4_len]
  rw [this, encP]
  simp
theorem encP_short {p : Par} (h : p.good = true) : (encP p).length ≤ 104 := by
  have := (whole_fit h).2
  simp [encP, sum4_len]; omega
/-- What Encode wrote goes through Decode. -/
theorem decErr_enc {p : Par} (h : p.good = true) : decErr (encP p) = none := by
  have h1 := encP_short h
  have h2 := encP_len p
  unfold decErr
  rw [encP_take, encP_drop, if_neg (by omega), if_neg (by rintro (h | h); · omega
                                                          · exact h rfl), if_neg (by simp)]
theorem decQ_enc {p : Par} (h : p.good = true) (hs : 0 ≤ p.sum ∧ p.sum < 18446744073709551616) : decQ (encP p) = (⟨[], false⟩, p.flds) ∧ ((decB (encP p)).2 : Int) = p.kind := by
  have hk := good_kind h
  have e : decM (encP p) = UInt8.ofNat p.kind.toNat :: bodyL p := by unfold decM; rw [encP_take]; simp [bareL]
  obtain ⟨h1, h2⟩ := byte_back (R := ⟨decM (encP p), false⟩) rfl p.kind (bodyL p) (by omega) (by omega) e
  unfold decQ decB
  rw [h1, h2]
  exact ⟨body_back h hs, rfl⟩
theorem dec_enc {p : Par} (h : p.good = true) (hs : 0 ≤ p.sum ∧ p.sum < 18446744073709551616) : decOk (encP p) = true ∧ decPar (encP p) = p.flds.par p.kind none 0 := by
  obtain ⟨h1, h2⟩ := decQ_enc h hs
  have e : decPar (encP p) = p.flds.par p.kind none 0 := by unfold decPar; rw [h1, h2]
  refine ⟨?_, e⟩
  unfold decOk
  rw [decErr_enc h, e, ← good_flds, h, h1]
  rfl

/-! What is read was written so. -/
theorem count_form {R : Rdr} (hb : R.count.1.bad = false) : R.bad = false ∧ R.rest = groupsL R.count.2 ++ R.count.1.rest := by
  rcases number_cases R 9223372036854775807 with ⟨h1, _⟩ | ⟨k, t, h1, h2, h3, _, _⟩
  · unfold Rdr.count at hb
    unfold Rdr.number at hb h1
    cases hR : R.bad with
    | true => rw [hR] at hb; simp at hb; rw [hR] at hb; cases hb
    | false =>
      rw [hR] at hb h1
      simp only [Bool.false_eq_true, if_false] at hb h1
      cases hp : parseL R.rest with
      | none => rw [hp] at hb; cases hb
      | some nk =>
        obtain ⟨n, k⟩ := nk
        rw [hp] at hb h1
        dsimp only at hb h1
        split at hb
        · cases hb
        · rename_i h; rw [if_neg h] at h1; cases h1
  · unfold Rdr.count
    rw [h1]
    exact ⟨h2, h3⟩
theorem num_form {R : Rdr} (hb : R.num.1.bad = false) : R.bad = false ∧ ∃ n, R.rest = groupsL n ++ R.num.1.rest ∧ R.num.2 = unzig n ∧ n < 2 ^ 64 := by
  rcases number_cases R 18446744073709551615 with ⟨h1, _⟩ | ⟨k, t, h1, h2, h3, _, h5⟩
  · unfold Rdr.num at hb
    unfold Rdr.number at hb h1
    cases hR : R.bad with
    | true => rw [hR] at hb; simp at hb; rw [hR] at hb; cases hb
    | false =>
      rw [hR] at hb h1
      simp only [Bool.false_eq_true, if_false] at hb h1
      cases hp : parseL R.rest with
      | none => rw [hp] at hb; cases hb
      | some nk =>
        obtain ⟨n, k⟩ := nk
        rw [hp] at hb h1
        dsimp only at hb h1
        split at hb
        · cases hb
        · rename_i h; rw [if_neg h] at h1; cases h1
  · unfold Rdr.num
    rw [h1]
    exact ⟨h2, k, h3, rfl, h5⟩
theorem byte_form {R : Rdr} (hb : R.byte.1.bad = false) : R.bad = false ∧ R.rest = UInt8.ofNat R.byte.2 :: R.byte.1.rest ∧ R.byte.2 ≤ 255 := by
  unfold Rdr.byte at hb ⊢
  cases hR : R.bad with
  | true => rw [hR] at hb; simp at hb; rw [hR] at hb; cases hb
  | false =>
    rw [hR] at hb
    simp only [Bool.false_eq_true, if_false] at hb ⊢
    cases hr : R.rest with
    | nil => rw [hr] at hb; cases hb
    | cons b r =>
      have := b.toNat_lt
      exact ⟨trivial, by dsimp only; rw [UInt8.ofNat_toNat], by dsimp only; omega⟩
theorem flags_form2 {R : Rdr} {n : Int} (hb : (R.flags n).1.bad = false) : R.bad = false ∧ 0 ≤ n ∧ (R.flags n).2.length = n.toNat ∧ R.rest = flagsL (R.flags n).2 ++ (R.flags n).1.rest := by
  unfold Rdr.flags at hb ⊢
  cases hR : R.bad with
  | true => rw [hR] at hb; simp at hb; rw [hR] at hb; cases hb
  | false =>
    rw [hR] at hb
    simp only [Bool.false_eq_true, if_false] at hb ⊢
    by_cases hc : n < 0 ∨ 65536 < n ∨ R.rest.length < (n.toNat + 7) / 8
    · rw [if_pos hc] at hb; cases hb
    · rw [if_neg hc] at hb ⊢
      by_cases ho : overF R.rest n.toNat ((n.toNat + 7) / 8) = true
      · rw [if_pos ho] at hb; cases hb
      · rw [if_neg ho]
        have hE := flags_form R.rest n.toNat _ rfl (by omega) (by simpa using ho)
        exact ⟨trivial, by omega, flagsOf_len _ _ _, by dsimp only; rw [hE, List.take_append_drop]⟩
theorem insF_form : ∀ (fl : List Bool) (R : Rdr) (b : Int) (acc : List Int), (fl.foldl stepF (R, b, acc)).1.bad = false →
    ∃ l, (fl.foldl stepF (R, b, acc)).2.2 = acc ++ l ∧ R.bad = false ∧ ((∀ x ∈ l, 0 ≤ x) → fl = turnsL b l ∧ R.rest = insL b l ++ (fl.foldl stepF (R, b, acc)).1.rest)
  | [], R, b, acc, h => ⟨[], by simp, h, fun _ => ⟨rfl, rfl⟩⟩
  | false :: r, R, b, acc, h => by
    rw [List.foldl_cons, show stepF (R, b, acc) false = (R, b, acc ++ [b]) from rfl] at h ⊢
    obtain ⟨l, h1, h2, h3⟩ := insF_form r R b (acc ++ [b]) h
    refine ⟨b :: l, by rw [h1]; simp, h2, fun hx => ?_⟩
    obtain ⟨h4, h5⟩ := h3 (fun x hm => hx x (by simp [hm]))
    have e : (b != b) = false := by simp
    exact ⟨by rw [turnsL, e, ← h4], by rw [insL, e]; exact h5⟩
  | true :: r, R, b, acc, h => by
    obtain ⟨v, hv⟩ : ∃ v, (if (R.byte.2 : Int) = b then -1 else (R.byte.2 : Int)) = v := ⟨_, rfl⟩
    have e0 : stepF (R, b, acc) true = (R.byte.1, v, acc ++ [v]) := by
      unfold stepF
      rw [if_pos rfl]
      dsimp only
      rw [hv]
    rw [List.foldl_cons, e0] at h ⊢
    obtain ⟨l, h1, h2, h3⟩ := insF_form r R.byte.1 v (acc ++ [v]) h
    obtain ⟨g1, g2, g3⟩ := byte_form h2
    refine ⟨v :: l, by rw [h1]; simp, g1, fun hx => ?_⟩
    obtain ⟨h4, h5⟩ := h3 (fun x hm => hx x (by simp [hm]))
    have hv0 := hx v (by simp)
    have hvb : ¬ (R.byte.2 : Int) = b := fun he => by rw [if_pos he] at hv; omega
    rw [if_neg hvb] at hv
    have e : (v != b) = true := by simp only [bne_iff_ne, ne_eq]; rw [← hv]; exact hvb
    refine ⟨by rw [turnsL, e, ← h4], ?_⟩
    rw [insL, e, if_pos rfl, g2, h5, ← hv]
    simp

theorem right_iff {R : Rdr} : R.right = true ↔ R.bad = false ∧ R.rest = [] := by
  unfold Rdr.right
  simp
theorem body_form {R : Rdr} {k : Int} {X : Option Addr} {c : Nat} (hr : (R.body k).1.right = true) (hg : ((R.body k).2.par k X c).good = true) : R.bad = false ∧ R.rest = bodyL ((R.body k).2.par k X c) := by
  obtain ⟨rb, rr⟩ := right_iff.1 hr
  rcases good_fields hg with ⟨hk, h1, hf⟩ | ⟨hk, hi, h1, hf⟩ | ⟨hk, h1, hf⟩ | ⟨hk, h1, hf⟩ | ⟨hk, h1, hf⟩
  · have hk' : k = 1 ∨ k = 2 := hk
    have e : R.body k = (R.count.1, ⟨R.count.2, 0, 0, [], 0, 0⟩) := by unfold Rdr.body; rw [if_pos hk']
    rw [e] at rb rr ⊢
    obtain ⟨h2, h3⟩ := count_form rb
    refine ⟨h2, ?_⟩
    unfold bodyL Flds.par
    dsimp only at rr ⊢
    rw [if_pos hk', h3, rr]
    simp
  · have hk' : k = 3 := hk
    obtain ⟨⟨l0, l1⟩, ⟨b0, b1⟩, ⟨f0, f1⟩, hx⟩ := isIn_of hi
    have e : R.body k = ((R.count.1.count.1.byte.1.count.1.inputs (R.count.1.count.1.byte.2 : Int) (R.count.1.count.1.byte.1.count.2 : Int)).1, ⟨0, R.count.2, R.count.1.count.1.byte.2, (R.count.1.count.1.byte.1.count.1.inputs (R.count.1.count.1.byte.2 : Int) (R.count.1.count.1.byte.1.count.2 : Int)).2, R.count.1.count.2, 0⟩) := by
      unfold Rdr.body
      rw [if_neg (by omega), if_pos hk']
    rw [e] at rb rr l0 l1 hx ⊢
    unfold Flds.par at l0 l1 hx ⊢
    dsimp only at rb rr l0 l1 hx ⊢
    obtain ⟨R4, n, hd⟩ : ∃ R4 n, R.count.1.count.1.byte.1.count = (R4, n) := ⟨_, _, rfl⟩
    obtain ⟨R3, b, hc⟩ : ∃ R3 b, R.count.1.count.1.byte = (R3, b) := ⟨_, _, rfl⟩
    rw [hd, hc] at rb rr l0 l1 hx ⊢
    dsimp only at rb rr l0 l1 hx ⊢
    unfold Rdr.inputs at rb rr l0 l1 hx ⊢
    obtain ⟨m, hm⟩ : ∃ m : Int, (if 33 < (n : Int) then 33 else (n : Int)) = m := ⟨_, rfl⟩
    rw [hm] at rb rr l0 l1 hx ⊢
    obtain ⟨R5, fl, hF⟩ : ∃ R5 fl, R4.flags m = (R5, fl) := ⟨_, _, rfl⟩
    rw [hF] at rb rr l0 l1 hx ⊢
    dsimp only at rb rr l0 l1 hx ⊢
    unfold Rdr.insF at rb rr l0 l1 hx ⊢
    obtain ⟨l, i1, i2, i3⟩ := insF_form fl R5 (b : Int) [] rb
    rw [List.nil_append] at i1
    rw [i1] at l0 l1 hx ⊢
    obtain ⟨i4, i5⟩ := i3 (fun x hm => (hx x hm).1)
    have hfl : fl.length = l.length := by rw [i4, turnsL_len]
    have f5 := flags_form2 (R := R4) (n := m) (by rw [hF]; exact i2)
    rw [hF] at f5
    dsimp only at f5
    obtain ⟨f6, f7, f8, f9⟩ := f5
    have hnl : n = l.length := by split at hm <;> omega
    have c4 := count_form (R := R.count.1.count.1.byte.1) (by rw [hd]; exact f6)
    rw [hd, hc] at c4
    dsimp only at c4
    have c3 := byte_form (R := R.count.1.count.1) (by rw [hc]; exact c4.1)
    rw [hc] at c3
    dsimp only at c3
    have c2 := count_form c3.1
    have c1 := count_form c2.1
    refine ⟨c1.1, ?_⟩
    unfold bodyL
    dsimp only
    rw [if_neg (by omega), if_pos hk', c1.2, c2.2, c3.2.1, c4.2, f9, i5, rr, i4, hnl]
    simp
  · have hk' : k = 4 := hk
    have e : R.body k = (R.count.1.num.1, ⟨0, R.count.2, 0, [], 0, IntKind.u64.wrap R.count.1.num.2⟩) := by unfold Rdr.body; rw [if_neg (by omega), if_neg (by omega), if_pos hk']
    rw [e] at rb rr ⊢
    obtain ⟨h2, n, h3, h4, h5⟩ := num_form rb
    obtain ⟨h6, h7⟩ := count_form h2
    refine ⟨h6, ?_⟩
    have hz : In64 (unzig n) := by unfold unzig In64; split <;> omega
    have hw : IntKind.i64.wrap (IntKind.u64.wrap (unzig n)) = unzig n := by
      obtain ⟨z0, z1⟩ := hz
      simp [IntKind.wrap, IntKind.signed, IntKind.bits]
      split <;> omega
    unfold bodyL Flds.par
    dsimp only at rr ⊢
    rw [if_neg (by omega), if_neg (by omega), if_pos hk', h7, h3, rr, h4, hw, zig_unzig n h5]
    simp
  · have hk' : k = 5 := hk
    have e : R.body k = (R.count.1, ⟨0, 0, 0, [], R.count.2, 0⟩) := by unfold Rdr.body; rw [if_neg (by omega), if_neg (by omega), if_neg (by omega), if_pos hk']
    rw [e] at rb rr ⊢
    obtain ⟨h2, h3⟩ := count_form rb
    refine ⟨h2, ?_⟩
    unfold bodyL Flds.par
    dsimp only at rr ⊢
    rw [if_neg (by omega), if_neg (by omega), if_neg (by omega), if_pos hk', h3, rr]
    simp
  · have hk' : k = 6 := hk
    have e : R.body k = (R.count.1, ⟨0, R.count.2, 0, [], 0, 0⟩) := by unfold Rdr.body; rw [if_neg (by omega), if_neg (by omega), if_neg (by omega), if_neg (by omega), if_pos hk']
    rw [e] at rb rr ⊢
    obtain ⟨h2, h3⟩ := count_form rb
    refine ⟨h2, ?_⟩
    unfold bodyL Flds.par
    dsimp only at rr ⊢
    rw [if_neg (by omega), if_neg (by omega), if_neg (by omega), if_neg (by omega), if_pos hk', h3, rr]
    simp
theorem decErr_none {l : List UInt8} (h : decErr l = none) : l.length ≤ 512 ∧ 6 ≤ l.length ∧ l.getD 0 0 = 80 ∧ sum4 (l.take (l.length - 4)) = l.drop (l.length - 4) := by
  unfold decErr at h
  split at h
  · cases h
  · split at h
    · cases h
    · rename_i h2
      split at h
      · cases h
      · rename_i h3
        exact ⟨by omega, by omega, by simpa using fun h' => h2 (.inr h'), by simpa using h3⟩
/-- What is read was written so. -/
theorem enc_dec {l : List UInt8} (h : decOk l = true) : encP (decPar l) = l := by
  unfold decOk at h
  rw [Bool.and_eq_true, Bool.and_eq_true] at h
  obtain ⟨h1, h2, h3⟩ := h
  obtain ⟨_, h5, h6, h7⟩ := decErr_none (by simpa using h1)
  obtain ⟨h8, h9⟩ := body_form h2 h3
  have h8' : (Rdr.mk (decM l) false).byte.1.bad = false := h8
  obtain ⟨_, g2, g3⟩ := byte_form h8'
  have hM : decM l = UInt8.ofNat (decB l).2 :: bodyL (decPar l) := by
    have : decM l = UInt8.ofNat (decB l).2 :: (decB l).1.rest := g2
    rw [this, h9]
    rfl
  have hb : l.take (l.length - 4) = bareL (decPar l) := by
    have e1 : l.take (l.length - 4) = 80 :: decM l := by
      unfold decM
      cases l with
      | nil => simp at h5
      | cons a t =>
        have ha : a = 80 := by simpa using h6
        subst ha
        rw [show (80 :: t : List UInt8).length - 4 = ((80 :: t : List UInt8).length - 5) + 1 by simp at h5 ⊢; omega, List.take_succ_cons]
        rfl
    rw [e1, hM]
    rfl
  unfold encP
  rw [← hb, h7, List.take_append_drop]

end Go.Proofs.YtpidjmgapiekaaaGreatDoor
