/- This text proves what the strand's reference takes from the beginning of a text, over the loaded program. -/
import Derived.Test.YtgdbpicelnoacaaDoorRef
import Derived.Test.YtgdbpicelnoacaaDoorRefRead
import Derived.Test.YtgdbpicelnoacaaDoorFormsPlain
namespace Go.Proofs.YtgdbpicelnoacaaDoor
open Go.RowKit Go.WideShapes
set_option linter.unusedSimpArgs false

/-- What the reference's Take answers, in the reader's words. -/
def TookI (w : World) (k : Int) (s : ByteArray) (q : Rdr × Int × List UInt8 × List Bool) (e : Ending) (w' : World) : Prop := ∃ (g : It) (S : ByteArray), e = .returned (.tuple #[g.v, .string S, .bool (!q.1.bad)]) ∧ g.kind = k ∧ g.n = q.2.1 ∧ g.text.data.toList = q.2.2.1 ∧ g.fl = q.2.2.2 ∧ S.data.toList = q.1.rest ∧ S.size ≤ s.size ∧ Cells w' g.X (g.fl.map Value.bool) ∧ Below w.heap.size w w' ∧ ∀ b o, g.X = some ⟨b, o, none⟩ → w.heap.size ≤ b
theorem w3_below (w : World) (a b c : Obj) : Below w.heap.size w (((w.alloc a).alloc b).alloc c) :=
  (((Below.refl w.heap.size w).alloc (Nat.le_refl _) a).alloc (by rw [size_alloc1]; omega) b).alloc (by rw [size_alloc1, size_alloc1]; omega) c
theorem w3_at (w : World) (a b c : Obj) : (((w.alloc a).alloc b).alloc c).heap[w.heap.size + 1]? = some b := by
  rw [alloc_old _ _ _ (by rw [size_alloc1, size_alloc1]; omega), ← size_alloc1 w a, heap_alloc_new]
theorem w3_cell (w : World) (a c : Obj) (cs : Array Value) (T : TypeId) (j : Nat) : (((w.alloc a).alloc (.cells cs T)).alloc c).cell? ⟨w.heap.size + 1, j, none⟩ = cs[j]? := by
  simp only [World.cell?, w3_at]
  rfl
theorem w3_cellD (w : World) (a c : Obj) (cs : Array Value) (T : TypeId) (j : Nat) : (((w.alloc a).alloc (.cells cs T)).alloc c).drew.cell? ⟨w.heap.size + 1, j, none⟩ = cs[j]? := w3_cell w a c cs T j
theorem w3_belowD (w : World) (a b c : Obj) : Below w.heap.size w (((w.alloc a).alloc b).alloc c).drew := (w3_below w a b c).trans ⟨rfl, rfl, rfl, Nat.le_refl _, fun _ _ => rfl⟩
/-- The reader's words for a text that is read from its beginning. -/
theorem took (w w' : World) (k : Int) (s : ByteArray) (q : Rdr × Int × List UInt8 × List Bool) (g : It) (S : ByteArray) (ok : Bool) (h0 : ok = !q.1.bad) (h1 : g.kind = k) (h2 : g.n = q.2.1) (h3 : g.text.data.toList = q.2.2.1) (h4 : g.fl = q.2.2.2) (h5 : S.data.toList = q.1.rest) (h6 : S.size ≤ s.size) (h7 : Cells w' g.X (g.fl.map Value.bool)) (h8 : Below w.heap.size w w') (h9 : ∀ b o, g.X = some ⟨b, o, none⟩ → w.heap.size ≤ b) :
    TookI w k s q (.returned (.tuple #[.agg #[.int .i64 g.kind, .int .i64 g.n, .string g.text, .slice g.X g.fl.length g.c], .string S, .bool ok])) w' := by
  subst h0
  exact ⟨g, S, rfl, h1, h2, h3, h4, h5, h6, h7, h8, h9⟩

theorem over_flags (l : List UInt8) (n m : Nat) (hm : (n + 7) / 8 = m) (ho : overF l n m = true) : flagsL (flagsOf l n (8 * m)) ≠ l.take m := by
  intro h
  unfold overF at ho
  obtain ⟨i, hi, hb⟩ := List.any_eq_true.1 ho
  have hi2 := List.mem_range.1 hi
  rw [Bool.and_eq_true, decide_eq_true_eq] at hb
  have h2 := bitOf_flags (flagsOf l n (8 * m)) (l.drop m) i (by rw [flagsOf_len, hm]; exact hi2)
  rw [h, List.take_append_drop, hb.2, List.getD_eq_getElem?_getD, List.getElem?_eq_none (by rw [flagsOf_len]; exact hb.1)] at h2
  cases h2

set_option maxRecDepth 100000 in
set_option maxHeartbeats 3200000 in
theorem take_any (w : World) (s : ByteArray) (hs : s.size ≤ 100000) (i : It) (hi : i.ok w) (hk6 : 1 ≤ i.kind ∧ i.kind ≤ 6) :
    Calls Tryd.prog 22 #[.string s, i.v] w (TookI w i.kind s ((Rdr.mk s.data.toList false).get i)) := by
  obtain ⟨kind, n, text, fl, X, c⟩ := i
  obtain ⟨hk, hn, ht, hf, hC⟩ := hi
  dsimp only at hk hn ht hf hC hk6
  unfold Rdr.get It.v
  dsimp only
  have hlen : s.data.toList.length = s.size := rfl
  obtain ⟨x1, x6⟩ := hk6
  have hks : kind = 1 ∨ kind = 2 ∨ kind = 3 ∨ kind = 4 ∨ kind = 5 ∨ kind = 6 := by omega
  rcases hks with rfl | rfl | rfl | rfl | rfl | rfl
  · simp only [if_true]
    by_cases hz : s.size = 0
    · have hr : s.data.toList = [] := List.eq_nil_of_length_eq_zero (by omega)
      have e : (Rdr.mk s.data.toList false).byte = (Rdr.mk s.data.toList true, 0) := by unfold Rdr.byte; rw [hr]; rfl
      rw [e]
      have q : ((s.size : Int) == 0) = true := by rw [hz]; rfl
      clear hz hr e hC hk hn ht hf hlen
      go_enter Tryd.func22, Tryd.ntmps22
      go_wp2_with fail
      exact bodyPost_ret (v := .tuple #[.agg #[.int .i64 1, .int .i64 0, .string ⟨#[]⟩, .slice none 0 0], .string s, .bool false]) (by simp [results, Tryd.results22, go_sem, w3_cell]) rfl (took w _ 1 s _ ⟨1, 0, ⟨#[]⟩, [], none, 0⟩ s false rfl rfl rfl rfl rfl rfl (Nat.le_refl _) (Cells.nil _ _) (w3_below ..) (by intro _ _ h; cases h))
    · obtain ⟨b, r, hbr⟩ : ∃ b r, s.data.toList = b :: r := by
        cases h : s.data.toList with
        | nil => rw [h] at hlen; simp at hlen; omega
        | cons b r => exact ⟨b, r, rfl⟩
      have e : (Rdr.mk s.data.toList false).byte = (Rdr.mk r false, b.toNat) := by unfold Rdr.byte; rw [hbr]; rfl
      rw [e]
      have q : ((s.size : Int) == 0) = false := by simpa using hz
      have q1 : 0 < s.size := by omega
      have hb : s[0]'q1 = b := by
        have : s.data.toList[0]'(by rw [hlen]; exact q1) = b := by simp only [hbr]; rfl
        exact this
      have DR : Hid ((s.extract 1 s.size).data.toList = r) := Lib.hid (by rw [extract_list, hbr]; rfl)
      have DS : Hid ((s.extract 1 s.size).size ≤ s.size) := Lib.hid (by simp only [ByteArray.size_extract]; omega)
      have hb256 : (b.toNat : Int) < 256 := by have := b.toNat_lt; omega
      have q2 : (0 : Int) < (s.size : Int) := by omega
      have hwb : IntKind.i64.wrap (b.toNat : Int) = (b.toNat : Int) := IntWalk.i64_in _ (by omega)
      have q3 : (1 : Int) ≤ (s.size : Int) := by omega
      clear hz e hC hk hn ht hf hlen hbr
      go_enter Tryd.func22, Tryd.ntmps22
      go_wp2_with fail
      go_region_with (fail)
      go_wp2_with fail
      exact bodyPost_ret (v := .tuple #[.agg #[.int .i64 1, .int .i64 (b.toNat : Int), .string ⟨#[]⟩, .slice none 0 0], .string (s.extract 1 s.size), .bool true]) (by simp [results, Tryd.results22, go_sem, w3_cellD, Act.put]) rfl (took w _ 1 s _ ⟨1, (b.toNat : Int), ⟨#[]⟩, [], none, 0⟩ (s.extract 1 s.size) true rfl rfl rfl rfl rfl DR.out DS.out (Cells.nil _ _) (w3_belowD ..) (by intro _ _ h; cases h))
  · simp (config := { decide := true }) only [if_true, if_false]
    have RD := Lib.hid (fun w' => refRead_any s w' (by simp only [maxLen]; omega))
    cases hp : parseL s.data.toList with
    | none =>
      have hv : parsedV s.data.toList = .tuple #[.int .u64 0, .int .i64 0] := by unfold parsedV; rw [hp]
      rw [hv] at RD
      have e : (Rdr.mk s.data.toList false).count = (Rdr.mk s.data.toList true, 0) := by unfold Rdr.count Rdr.number Rdr.spoil; simp [hp]
      rw [e]
      clear e hv hp hC hk hn ht hf hlen
      go_enter Tryd.func22, Tryd.ntmps22
      go_wp2_with fail
      refine (RD.out _).mono ?_
      rintro e w1 ⟨rfl, rfl⟩
      go_wp2_with fail
      exact bodyPost_ret (v := .tuple #[.agg #[.int .i64 2, .int .i64 0, .string ⟨#[]⟩, .slice none 0 0], .string s, .bool false]) (by simp [results, Tryd.results22, go_sem, w3_cell]) rfl (took w _ 2 s _ ⟨2, 0, ⟨#[]⟩, [], none, 0⟩ s false rfl rfl rfl rfl rfl rfl (Nat.le_refl _) (Cells.nil _ _) (w3_below ..) (by intro _ _ h; cases h))
    | some p =>
      obtain ⟨m, k⟩ := p
      obtain ⟨f1, f2, f3, f4, f5⟩ := parseL_form hp
      have hv : parsedV s.data.toList = .tuple #[.int .u64 (m : Int), .int .i64 (k : Int)] := by unfold parsedV; rw [hp]
      rw [hv] at RD
      rw [hlen] at f3
      have q1 : ¬ (k : Int) = 0 := by omega
      by_cases hm : 9223372036854775807 < m
      · have e : (Rdr.mk s.data.toList false).count = (Rdr.mk s.data.toList true, 0) := by unfold Rdr.count Rdr.number Rdr.spoil; simp [hp, hm]
        rw [e]
        have q2 : decide ((9223372036854775807 : Int) < (m : Int)) = true := by simp; omega
        clear e hv hp hC hk hn ht hf hlen f1 f2 f3 f4 f5 hm
        go_enter Tryd.func22, Tryd.ntmps22
        go_wp2_with fail
        refine (RD.out _).mono ?_
        rintro e w1 ⟨rfl, rfl⟩
        go_wp2_with fail
        exact bodyPost_ret (v := .tuple #[.agg #[.int .i64 2, .int .i64 0, .string ⟨#[]⟩, .slice none 0 0], .string s, .bool false]) (by simp [results, Tryd.results22, go_sem, w3_cell]) rfl (took w _ 2 s _ ⟨2, 0, ⟨#[]⟩, [], none, 0⟩ s false rfl rfl rfl rfl rfl rfl (Nat.le_refl _) (Cells.nil _ _) (w3_below ..) (by intro _ _ h; cases h))
      · have e : (Rdr.mk s.data.toList false).count = (Rdr.mk (s.data.toList.drop k) false, m) := by unfold Rdr.count Rdr.number; simp [hp, hm]
        rw [e]
        have q2 : decide ((9223372036854775807 : Int) < (m : Int)) = false := by simp; omega
        have DR : Hid ((s.extract k s.size).data.toList = s.data.toList.drop k) := Lib.hid (by rw [extract_list])
        have DS : Hid ((s.extract k s.size).size ≤ s.size) := Lib.hid (by simp only [ByteArray.size_extract]; omega)
        have hwm : IntKind.i64.wrap (m : Int) = (m : Int) := IntWalk.i64_in _ (by omega)
        have q4 : (0 : Int) ≤ (k : Int) := by omega
        have q5 : (k : Int) ≤ (s.size : Int) := by omega
        clear e hv hp hC hk hn ht hf hlen f1 f2 f3 f4 f5 hm
        go_enter Tryd.func22, Tryd.ntmps22
        go_wp2_with fail
        refine (RD.out _).mono ?_
        rintro e w1 ⟨rfl, rfl⟩
        go_wp2_with fail
        go_region_with (fail)
        go_wp2_with fail
        exact bodyPost_ret (v := .tuple #[.agg #[.int .i64 2, .int .i64 (m : Int), .string ⟨#[]⟩, .slice none 0 0], .string (s.extract k s.size), .bool true]) (by simp [results, Tryd.results22, go_sem, w3_cellD, Act.put]) rfl (took w _ 2 s _ ⟨2, (m : Int), ⟨#[]⟩, [], none, 0⟩ (s.extract k s.size) true rfl rfl rfl rfl rfl DR.out DS.out (Cells.nil _ _) (w3_belowD ..) (by intro _ _ h; cases h))
  · simp (config := { decide := true }) only [if_true, if_false]
    have RD := Lib.hid (fun w' => refRead_any s w' (by simp only [maxLen]; omega))
    cases hp : parseL s.data.toList with
    | none =>
      have hv : parsedV s.data.toList = .tuple #[.int .u64 0, .int .i64 0] := by unfold parsedV; rw [hp]
      rw [hv] at RD
      have e : (Rdr.mk s.data.toList false).num = (Rdr.mk s.data.toList true, 0) := by unfold Rdr.num Rdr.number Rdr.spoil; simp [hp, unzig]
      rw [e]
      clear e hv hp hC hk hn ht hf hlen
      go_enter Tryd.func22, Tryd.ntmps22
      go_wp2_with fail
      refine (RD.out _).mono ?_
      rintro e w1 ⟨rfl, rfl⟩
      go_wp2_with fail
      exact bodyPost_ret (v := .tuple #[.agg #[.int .i64 3, .int .i64 0, .string ⟨#[]⟩, .slice none 0 0], .string s, .bool false]) (by simp [results, Tryd.results22, go_sem, w3_cell]) rfl (took w _ 3 s _ ⟨3, 0, ⟨#[]⟩, [], none, 0⟩ s false rfl rfl rfl rfl rfl rfl (Nat.le_refl _) (Cells.nil _ _) (w3_below ..) (by intro _ _ h; cases h))
    | some p =>
      obtain ⟨m, k⟩ := p
      obtain ⟨f1, f2, f3, f4, f5⟩ := parseL_form hp
      have hv : parsedV s.data.toList = .tuple #[.int .u64 (m : Int), .int .i64 (k : Int)] := by unfold parsedV; rw [hp]
      rw [hv] at RD
      rw [hlen] at f3
      have q1 : ¬ (k : Int) = 0 := by omega
      have e : (Rdr.mk s.data.toList false).num = (Rdr.mk (s.data.toList.drop k) false, unzig m) := by unfold Rdr.num Rdr.number; simp [hp, show ¬ 18446744073709551615 < m from by omega]
      rw [e]
      have DR : Hid ((s.extract k s.size).data.toList = s.data.toList.drop k) := Lib.hid (by rw [extract_list])
      have DS : Hid ((s.extract k s.size).size ≤ s.size) := Lib.hid (by simp only [ByteArray.size_extract]; omega)
      obtain ⟨h, hh⟩ : ∃ h : Nat, m / 2 = h := ⟨_, rfl⟩
      have e1 : (m : Int) / 2 = (h : Int) := by omega
      have e2 : IntKind.i64.wrap (h : Int) = (h : Int) := IntWalk.i64_in _ (by omega)
      have b1 : (0 : Int) ≤ (h : Int) := by omega
      have b2 : (h : Int) ≤ 9223372036854775807 := by omega
      have q4 : (0 : Int) ≤ (k : Int) := by omega
      have q5 : (k : Int) ≤ (s.size : Int) := by omega
      by_cases hodd : m % 2 = 1
      · have UZ : Hid (-(h : Int) - 1 = unzig m) := Lib.hid (by unfold unzig; rw [if_pos hodd, hh])
        have q2 : ((m : Int) % 2 == 1) = true := by simp; omega
        clear e hv hp hC hk hn ht hf hlen f1 f2 f3 f4 f5 hh hodd
        go_enter Tryd.func22, Tryd.ntmps22
        go_wp2_with fail
        refine (RD.out _).mono ?_
        rintro e w1 ⟨rfl, rfl⟩
        go_wp2_with fail
        go_region_with (fail)
        go_wp2_with fail
        exact bodyPost_ret (v := .tuple #[.agg #[.int .i64 3, .int .i64 (-(h : Int) - 1), .string ⟨#[]⟩, .slice none 0 0], .string (s.extract k s.size), .bool true]) (by simp [results, Tryd.results22, go_sem, w3_cellD, Act.put]) rfl (took w _ 3 s _ ⟨3, (-(h : Int) - 1), ⟨#[]⟩, [], none, 0⟩ (s.extract k s.size) true rfl rfl UZ.out rfl rfl DR.out DS.out (Cells.nil _ _) (w3_belowD ..) (by intro _ _ h; cases h))
      · have UZ : Hid ((h : Int) = unzig m) := Lib.hid (by unfold unzig; rw [if_neg hodd, hh])
        have q2 : ((m : Int) % 2 == 1) = false := by simp; omega
        clear e hv hp hC hk hn ht hf hlen f1 f2 f3 f4 f5 hh hodd
        go_enter Tryd.func22, Tryd.ntmps22
        go_wp2_with fail
        refine (RD.out _).mono ?_
        rintro e w1 ⟨rfl, rfl⟩
        go_wp2_with fail
        go_region_with (fail)
        go_wp2_with fail
        exact bodyPost_ret (v := .tuple #[.agg #[.int .i64 3, .int .i64 (h : Int), .string ⟨#[]⟩, .slice none 0 0], .string (s.extract k s.size), .bool true]) (by simp [results, Tryd.results22, go_sem, w3_cellD, Act.put]) rfl (took w _ 3 s _ ⟨3, (h : Int), ⟨#[]⟩, [], none, 0⟩ (s.extract k s.size) true rfl rfl UZ.out rfl rfl DR.out DS.out (Cells.nil _ _) (w3_belowD ..) (by intro _ _ h; cases h))
  · simp (config := { decide := true }) only [if_true, if_false]
    have RD := Lib.hid (fun w' => refRead_any s w' (by simp only [maxLen]; omega))
    cases hp : parseL s.data.toList with
    | none =>
      have hv : parsedV s.data.toList = .tuple #[.int .u64 0, .int .i64 0] := by unfold parsedV; rw [hp]
      rw [hv] at RD
      have e : (Rdr.mk s.data.toList false).text n = (Rdr.mk s.data.toList true, []) := by unfold Rdr.text Rdr.number Rdr.spoil; simp [hp]
      rw [e]
      clear e hv hp hC hk hn ht hf hlen
      go_enter Tryd.func22, Tryd.ntmps22
      go_wp2_with fail
      refine (RD.out _).mono ?_
      rintro e w1 ⟨rfl, rfl⟩
      go_wp2_with fail
      exact bodyPost_ret (v := .tuple #[.agg #[.int .i64 4, .int .i64 0, .string ⟨#[]⟩, .slice none 0 0], .string s, .bool false]) (by simp [results, Tryd.results22, go_sem, w3_cell]) rfl (took w _ 4 s _ ⟨4, 0, ⟨#[]⟩, [], none, 0⟩ s false rfl rfl rfl rfl rfl rfl (Nat.le_refl _) (Cells.nil _ _) (w3_below ..) (by intro _ _ h; cases h))
    | some p =>
      obtain ⟨m, k⟩ := p
      obtain ⟨f1, f2, f3, f4, f5⟩ := parseL_form hp
      have hv : parsedV s.data.toList = .tuple #[.int .u64 (m : Int), .int .i64 (k : Int)] := by unfold parsedV; rw [hp]
      rw [hv] at RD
      have h64 : ¬ 18446744073709551615 < m := by omega
      have hdl : (s.data.toList.drop k).length = s.size - k := by rw [List.length_drop, hlen]
      rw [hlen] at f3
      have q1 : ¬ (k : Int) = 0 := by omega
      by_cases hbad : n < (m : Int) ∨ s.size - k < m
      · have e : (Rdr.mk s.data.toList false).text n = (Rdr.mk s.data.toList true, []) := by unfold Rdr.text Rdr.number Rdr.spoil; simp only [hp, if_neg h64, Bool.false_eq_true, if_false, hdl]; rw [if_pos hbad]
        rw [e]
        by_cases hn0 : n < 0
        · clear e hdl hbad
          clear hv hp hC hk hn ht hf hlen f1 f2 f3 f4 f5 h64
          go_enter Tryd.func22, Tryd.ntmps22
          go_wp2_with fail
          refine (RD.out _).mono ?_
          rintro e w1 ⟨rfl, rfl⟩
          go_wp2_with fail
          exact bodyPost_ret (v := .tuple #[.agg #[.int .i64 4, .int .i64 0, .string ⟨#[]⟩, .slice none 0 0], .string s, .bool false]) (by simp [results, Tryd.results22, go_sem, w3_cell]) rfl (took w _ 4 s _ ⟨4, 0, ⟨#[]⟩, [], none, 0⟩ s false rfl rfl rfl rfl rfl rfl (Nat.le_refl _) (Cells.nil _ _) (w3_below ..) (by intro _ _ h; cases h))
        · have hwn : IntKind.u64.wrap n = n := by have := hn.2; rw [wrapU]; omega
          by_cases hnm : n < (m : Int)
          · clear e hdl hbad
            clear hv hp hC hk hn ht hf hlen f1 f2 f3 f4 f5 h64
            go_enter Tryd.func22, Tryd.ntmps22
            go_wp2_with fail
            refine (RD.out _).mono ?_
            rintro e w1 ⟨rfl, rfl⟩
            go_wp2_with fail
            exact bodyPost_ret (v := .tuple #[.agg #[.int .i64 4, .int .i64 0, .string ⟨#[]⟩, .slice none 0 0], .string s, .bool false]) (by simp [results, Tryd.results22, go_sem, w3_cell]) rfl (took w _ 4 s _ ⟨4, 0, ⟨#[]⟩, [], none, 0⟩ s false rfl rfl rfl rfl rfl rfl (Nat.le_refl _) (Cells.nil _ _) (w3_below ..) (by intro _ _ h; cases h))
          · have hws : IntKind.u64.wrap ((s.size : Int) - (k : Int)) = (s.size : Int) - (k : Int) := by rw [wrapU]; omega
            have q3 : (s.size : Int) - (k : Int) < (m : Int) := by omega
            have q4 : (k : Int) ≤ (s.size : Int) := by omega
            clear e hdl hbad
            clear hv hp hC hk hn ht hf hlen f1 f2 f3 f4 f5 h64
            go_enter Tryd.func22, Tryd.ntmps22
            go_wp2_with fail
            refine (RD.out _).mono ?_
            rintro e w1 ⟨rfl, rfl⟩
            go_wp2_with fail
            exact bodyPost_ret (v := .tuple #[.agg #[.int .i64 4, .int .i64 0, .string ⟨#[]⟩, .slice none 0 0], .string s, .bool false]) (by simp [results, Tryd.results22, go_sem, w3_cell]) rfl (took w _ 4 s _ ⟨4, 0, ⟨#[]⟩, [], none, 0⟩ s false rfl rfl rfl rfl rfl rfl (Nat.le_refl _) (Cells.nil _ _) (w3_below ..) (by intro _ _ h; cases h))
      · have e : (Rdr.mk s.data.toList false).text n = (Rdr.mk ((s.data.toList.drop k).drop m) false, (s.data.toList.drop k).take m) := by unfold Rdr.text Rdr.number Rdr.spoil; simp only [hp, if_neg h64, Bool.false_eq_true, if_false, hdl]; rw [if_neg hbad]
        rw [e]
        have hn0 : decide (n < 0) = false := by rw [decide_eq_false_iff_not]; omega
        have q1b : ((k : Int) == 0) = false := by simpa using q1
        have hwn : IntKind.u64.wrap n = n := by have := hn.2; rw [wrapU]; omega
        have hnm : decide (n < (m : Int)) = false := by rw [decide_eq_false_iff_not]; omega
        have hws : IntKind.u64.wrap ((s.size : Int) - (k : Int)) = (s.size : Int) - (k : Int) := by rw [wrapU]; omega
        have q3 : decide ((s.size : Int) - (k : Int) < (m : Int)) = false := by rw [decide_eq_false_iff_not]; omega
        have q4 : (k : Int) ≤ (s.size : Int) := by omega
        have hwm : IntKind.i64.wrap (m : Int) = (m : Int) := IntWalk.i64_in _ (by omega)
        have hwk : IntKind.i64.wrap ((k : Int) + (m : Int)) = ((k + m : Nat) : Int) := by rw [IntWalk.i64_in _ (by omega)]; simp
        have q5 : (k : Int) ≤ ((k + m : Nat) : Int) := by omega
        have q6 : ((k + m : Nat) : Int) ≤ (s.size : Int) := by omega
        have q7 : (0 : Int) ≤ (k : Int) := by omega
        have q8 : (0 : Int) ≤ ((k + m : Nat) : Int) := by omega
        have TR : Hid ((s.extract k (k + m)).data.toList = (s.data.toList.drop k).take m) := Lib.hid (by
          have h : (s.extract k (k + m)).data = s.data.extract k (k + m) := by simp
          rw [h, Array.toList_extract, List.extract_eq_take_drop]
          simp)
        have DR : Hid ((s.extract (k + m) s.size).data.toList = (s.data.toList.drop k).drop m) := Lib.hid (by rw [extract_list, List.drop_drop])
        have DS : Hid ((s.extract (k + m) s.size).size ≤ s.size) := Lib.hid (by simp only [ByteArray.size_extract]; omega)
        obtain ⟨km, hkm⟩ : ∃ km, k + m = km := ⟨_, rfl⟩
        rw [hkm] at hwk q5 q6 q8 TR DR DS
        clear e hdl hbad q1 hkm
        clear hv hp hC hk hn ht hf hlen f1 f2 f3 f4 f5 h64
        go_enter Tryd.func22, Tryd.ntmps22
        go_wp2_with fail
        refine (RD.out _).mono ?_
        rintro e w1 ⟨rfl, rfl⟩
        go_wp2_with fail
        go_region_with (fail)
        go_wp2_with fail
        exact bodyPost_ret (v := .tuple #[.agg #[.int .i64 4, .int .i64 0, .string (s.extract k km), .slice none 0 0], .string (s.extract km s.size), .bool true]) (by simp [results, Tryd.results22, go_sem, w3_cellD, Act.put]) rfl (took w _ 4 s _ ⟨4, 0, (s.extract k km), [], none, 0⟩ (s.extract km s.size) true rfl rfl rfl TR.out rfl DR.out DS.out (Cells.nil _ _) (w3_belowD ..) (by intro _ _ h; cases h))
  · simp (config := { decide := true }) only [if_true, if_false]
    have RD := Lib.hid (fun w' => refRead_any s w' (by simp only [maxLen]; omega))
    cases hp : parseL s.data.toList with
    | none =>
      have hv : parsedV s.data.toList = .tuple #[.int .u64 0, .int .i64 0] := by unfold parsedV; rw [hp]
      rw [hv] at RD
      have e : (Rdr.mk s.data.toList false).bits = (Rdr.mk s.data.toList true, 0) := by unfold Rdr.bits Rdr.number Rdr.spoil; simp [hp]
      rw [e]
      clear e hv hp hC hk hn ht hf hlen
      go_enter Tryd.func22, Tryd.ntmps22
      go_wp2_with fail
      refine (RD.out _).mono ?_
      rintro e w1 ⟨rfl, rfl⟩
      go_wp2_with fail
      exact bodyPost_ret (v := .tuple #[.agg #[.int .i64 5, .int .i64 0, .string ⟨#[]⟩, .slice none 0 0], .string s, .bool false]) (by simp [results, Tryd.results22, go_sem, w3_cell]) rfl (took w _ 5 s _ ⟨5, 0, ⟨#[]⟩, [], none, 0⟩ s false rfl rfl rfl rfl rfl rfl (Nat.le_refl _) (Cells.nil _ _) (w3_below ..) (by intro _ _ h; cases h))
    | some p =>
      obtain ⟨m, k⟩ := p
      obtain ⟨f1, f2, f3, f4, f5⟩ := parseL_form hp
      have hv : parsedV s.data.toList = .tuple #[.int .u64 (m : Int), .int .i64 (k : Int)] := by unfold parsedV; rw [hp]
      rw [hv] at RD
      rw [hlen] at f3
      have q1 : ¬ (k : Int) = 0 := by omega
      by_cases hm : 4294967295 < m
      · have e : (Rdr.mk s.data.toList false).bits = (Rdr.mk s.data.toList true, 0) := by unfold Rdr.bits Rdr.number Rdr.spoil; simp [hp, hm]
        rw [e]
        by_cases h63 : 9223372036854775807 < m
        · have q2 : decide ((9223372036854775807 : Int) < (m : Int)) = true := by simp; omega
          clear h63
          clear e hv hp hC hk hn ht hf hlen f1 f2 f3 f4 f5 hm
          go_enter Tryd.func22, Tryd.ntmps22
          go_wp2_with fail
          refine (RD.out _).mono ?_
          rintro e w1 ⟨rfl, rfl⟩
          go_wp2_with fail
          exact bodyPost_ret (v := .tuple #[.agg #[.int .i64 5, .int .i64 0, .string ⟨#[]⟩, .slice none 0 0], .string s, .bool false]) (by simp [results, Tryd.results22, go_sem, w3_cell]) rfl (took w _ 5 s _ ⟨5, 0, ⟨#[]⟩, [], none, 0⟩ s false rfl rfl rfl rfl rfl rfl (Nat.le_refl _) (Cells.nil _ _) (w3_below ..) (by intro _ _ h; cases h))
        · have q2 : decide ((9223372036854775807 : Int) < (m : Int)) = false := by simp; omega
          have q3 : decide ((4294967295 : Int) < (m : Int)) = true := by simp; omega
          clear h63
          clear e hv hp hC hk hn ht hf hlen f1 f2 f3 f4 f5 hm
          go_enter Tryd.func22, Tryd.ntmps22
          go_wp2_with fail
          refine (RD.out _).mono ?_
          rintro e w1 ⟨rfl, rfl⟩
          go_wp2_with fail
          exact bodyPost_ret (v := .tuple #[.agg #[.int .i64 5, .int .i64 0, .string ⟨#[]⟩, .slice none 0 0], .string s, .bool false]) (by simp [results, Tryd.results22, go_sem, w3_cell]) rfl (took w _ 5 s _ ⟨5, 0, ⟨#[]⟩, [], none, 0⟩ s false rfl rfl rfl rfl rfl rfl (Nat.le_refl _) (Cells.nil _ _) (w3_below ..) (by intro _ _ h; cases h))
      · have e : (Rdr.mk s.data.toList false).bits = (Rdr.mk (s.data.toList.drop k) false, m) := by unfold Rdr.bits Rdr.number; simp [hp, hm]
        rw [e]
        have q2 : decide ((9223372036854775807 : Int) < (m : Int)) = false := by simp; omega
        have q3 : decide ((4294967295 : Int) < (m : Int)) = false := by simp; omega
        have DR : Hid ((s.extract k s.size).data.toList = s.data.toList.drop k) := Lib.hid (by rw [extract_list])
        have DS : Hid ((s.extract k s.size).size ≤ s.size) := Lib.hid (by simp only [ByteArray.size_extract]; omega)
        have hwm : IntKind.i64.wrap (m : Int) = (m : Int) := IntWalk.i64_in _ (by omega)
        have q4 : (0 : Int) ≤ (k : Int) := by omega
        have q5 : (k : Int) ≤ (s.size : Int) := by omega
        clear e hv hp hC hk hn ht hf hlen f1 f2 f3 f4 f5 hm
        go_enter Tryd.func22, Tryd.ntmps22
        go_wp2_with fail
        refine (RD.out _).mono ?_
        rintro e w1 ⟨rfl, rfl⟩
        go_wp2_with fail
        go_region_with (fail)
        go_wp2_with fail
        exact bodyPost_ret (v := .tuple #[.agg #[.int .i64 5, .int .i64 (m : Int), .string ⟨#[]⟩, .slice none 0 0], .string (s.extract k s.size), .bool true]) (by simp [results, Tryd.results22, go_sem, w3_cellD, Act.put]) rfl (took w _ 5 s _ ⟨5, (m : Int), ⟨#[]⟩, [], none, 0⟩ (s.extract k s.size) true rfl rfl rfl rfl rfl DR.out DS.out (Cells.nil _ _) (w3_belowD ..) (by intro _ _ h; cases h))
  · simp (config := { decide := true }) only [if_true, if_false]
    by_cases hbad : n < 0 ∨ 65536 < n ∨ s.size < (n.toNat + 7) / 8
    · have e : (Rdr.mk s.data.toList false).flags n = (Rdr.mk s.data.toList true, []) := by unfold Rdr.flags Rdr.spoil; rw [if_neg (by simp), if_pos (by rw [hlen]; exact hbad)]
      rw [e]
      have hcase : n < 0 ∨ (¬ n < 0 ∧ 65536 < n) ∨ (¬ n < 0 ∧ ¬ 65536 < n ∧ (s.size : Int) < (n + 7) / 8) := by omega
      clear e hbad hC hk hn ht hf hlen
      rcases hcase with h | ⟨h1, h2⟩ | ⟨h1, h2, h3⟩
      · go_enter Tryd.func22, Tryd.ntmps22
        go_wp2_with fail
        exact bodyPost_ret (v := .tuple #[.agg #[.int .i64 6, .int .i64 0, .string ⟨#[]⟩, .slice none 0 0], .string s, .bool false]) (by simp [results, Tryd.results22, go_sem, w3_cell]) rfl (took w _ 6 s _ ⟨6, 0, ⟨#[]⟩, [], none, 0⟩ s false rfl rfl rfl rfl rfl rfl (Nat.le_refl _) (Cells.nil _ _) (w3_below ..) (by intro _ _ h; cases h))
      · go_enter Tryd.func22, Tryd.ntmps22
        go_wp2_with fail
        exact bodyPost_ret (v := .tuple #[.agg #[.int .i64 6, .int .i64 0, .string ⟨#[]⟩, .slice none 0 0], .string s, .bool false]) (by simp [results, Tryd.results22, go_sem, w3_cell]) rfl (took w _ 6 s _ ⟨6, 0, ⟨#[]⟩, [], none, 0⟩ s false rfl rfl rfl rfl rfl rfl (Nat.le_refl _) (Cells.nil _ _) (w3_below ..) (by intro _ _ h; cases h))
      · go_enter Tryd.func22, Tryd.ntmps22
        go_wp2_with fail
        exact bodyPost_ret (v := .tuple #[.agg #[.int .i64 6, .int .i64 0, .string ⟨#[]⟩, .slice none 0 0], .string s, .bool false]) (by simp [results, Tryd.results22, go_sem, w3_cell]) rfl (took w _ 6 s _ ⟨6, 0, ⟨#[]⟩, [], none, 0⟩ s false rfl rfl rfl rfl rfl rfl (Nat.le_refl _) (Cells.nil _ _) (w3_below ..) (by intro _ _ h; cases h))
    · obtain ⟨N, rfl⟩ : ∃ N : Nat, n = N := ⟨n.toNat, by omega⟩
      have hN1 : (N : Int) ≤ 65536 := by omega
      obtain ⟨m, hm⟩ : ∃ m, (N + 7) / 8 = m := ⟨_, rfl⟩
      have hms : m ≤ s.size := by omega
      have N0 : Hid ((Rdr.mk s.data.toList false).flags N = if overF s.data.toList N m then (Rdr.mk s.data.toList true, []) else (Rdr.mk (s.data.toList.drop m) false, flagsOf s.data.toList N (8 * m))) := Lib.hid (by
        unfold Rdr.flags Rdr.spoil
        rw [if_neg (by simp), if_neg (by rw [hlen]; exact hbad)]
        rw [show ((N : Int)).toNat = N from rfl, hm])
      have MM := Lib.hid hm
      have hdiv : ((N : Int) + 7) / 8 = (m : Int) := by omega
      have hdivt : ((N : Int) + 7).tdiv 8 = (m : Int) := by rw [Int.tdiv_eq_ediv_of_nonneg (by omega)]; exact hdiv
      have m0 : (0 : Int) ≤ (m : Int) := by omega
      have q155 : decide (s.size < m) = false := by simpa using hms
      have q154 : decide ((N : Int) < 0) = false := by rw [decide_eq_false_iff_not]; omega
      have q153 : decide ((65536 : Int) < (N : Int)) = false := by rw [decide_eq_false_iff_not]; omega
      have m1 : (m : Int) ≤ (s.size : Int) := by omega
      have n0 : (0 : Int) ≤ (N : Int) := by omega
      obtain ⟨F, hF⟩ : ∃ F, flagsOf s.data.toList N (8 * m) = F := ⟨_, rfl⟩
      have FL : Hid (F.length = N) := Lib.hid (by rw [← hF, flagsOf_len])
      have FA : Hid (∀ i, i < N → F[i]? = some (bitOf s.data.toList i)) := Lib.hid (fun i hi => by rw [← hF, flagsOf_at _ _ _ _ hi, decide_eq_true (show i < 8 * m by omega)]; simp)
      have FH := Lib.hid hF
      clear hbad hC hk hn ht hf hm hF
      have LEN := Lib.hid hlen
      clear hlen
      obtain ⟨W3, hW3⟩ : ∃ W3, getW w 6 N text X fl.length c = W3 := ⟨_, rfl⟩
      have s3 : W3.heap.size = w.heap.size + 3 := by rw [← hW3, getW_size]
      have a0 : W3.heap[w.heap.size]? = some (.cells #[.int .i64 6, .int .i64 N, .string text, .slice X fl.length c] 30 (0, 0)) := by rw [← hW3, getW_at0]
      have a1 : W3.heap[w.heap.size + 1]? = some (.cells #[.int .i64 0, .int .i64 0, .string ⟨#[]⟩, .slice none 0 0] 30 (0, 0)) := by rw [← hW3, getW_at1]
      have a2 : W3.heap[w.heap.size + 2]? = some (.cells #[.int .i64 6, .int .i64 0, .string ⟨#[]⟩, .slice none 0 0] 30 (0, 0)) := by rw [← hW3, getW_at2]
      have BW : Hid (Below w.heap.size w W3) := Lib.hid (by rw [← hW3]; exact getW_below ..)
      have A3 := Lib.hid (And.intro a0 (And.intro a1 a2))
      have S3 := Lib.hid s3
      have HW3 := Lib.hid hW3
      clear hW3 s3 a0 a1 a2
      unfold getW at HW3
      go_enter Tryd.func22, Tryd.ntmps22
      go_wp2_with fail
      rw [HW3.out]
      go_loopw [15, 16] (fun ov iv wr => ∃ (k : Nat) (gp : List Nat), k ≤ N ∧ iv = .int .i64 k ∧ RowN wr 4 1 gp ov k ((F.take k).map Value.bool) ∧ (∀ x ∈ gp, w.heap.size + 3 ≤ x ∧ x < wr.heap.size) ∧ Below W3.heap.size W3 wr) (fun _ iv _ => N - (intOf iv).toNat)
      case atStart =>
        have hz := heap_alloc_new W3 (.cells #[] 4)
        rw [S3.out] at hz
        exact ⟨0, [w.heap.size + 3], Nat.zero_le _, rfl, .inr ⟨w.heap.size + 3, 0, 0, rfl, by simp, by simp, by simp, by simp, #[], hz, by simp, by simp⟩, fun x hx => by simp at hx; subst hx; rw [size_alloc1, S3.out]; omega, (Below.refl _ _).alloc (Nat.le_refl _) _⟩
      case round =>
        obtain ⟨k, gp, hk, rfl, hR, hgp, hB⟩ := hrel
        have b0 := (hB.block w.heap.size (by rw [S3.out]; omega)).trans A3.out.1
        have c1 : wr.cell? ⟨w.heap.size, 1, none⟩ = some (.int .i64 N) := by simp [World.cell?, b0]
        have RH := Lib.hid hR
        have GP := Lib.hid hgp
        have BH := Lib.hid hB
        clear hR hgp hB b0
        by_cases hlt : k < N
        · obtain ⟨q, hq⟩ : ∃ q, k / 8 = q := ⟨_, rfl⟩
          obtain ⟨r, hr⟩ : ∃ r, k % 8 = r := ⟨_, rfl⟩
          have hi3 : (k : Int) / 8 = (q : Int) := by omega
          have hi6 : (k : Int) % 8 = (r : Int) := by omega
          have hqm : q < m := by have := MM.out; omega
          have hqs : q < s.size := by omega
          have hr8 : (r : Int) < 8 := by omega
          have hr0 : (0 : Int) ≤ (r : Int) := by omega
          have hi4 : (q : Int) < (s.size : Int) := by omega
          have hi5 : (0 : Int) ≤ (q : Int) := by omega
          have hk0 : (0 : Int) ≤ (k : Int) := by omega
          have hkN : (k : Int) < (N : Int) := by omega
          obtain ⟨b, hb⟩ : ∃ b, s[q]'hqs = b := ⟨_, rfl⟩
          obtain ⟨bt, hbt⟩ : ∃ bt, bitOf s.data.toList k = bt := ⟨_, rfl⟩
          obtain ⟨z, hz⟩ : ∃ z, b.toNat / 2 ^ r = z := ⟨_, rfl⟩
          have hgd : s.data.toList.getD (k / 8) 0 = b := by
            rw [hq, List.getD_eq_getElem?_getD, List.getElem?_eq_getElem (by rw [LEN.out]; exact hqs), Option.getD_some]
            exact hb
          have hbit : decide (z % 2 = 1) = bt := by rw [← hbt, ← hz]; unfold bitOf; rw [hgd, hr]
          have hb256 : (b.toNat : Int) < 256 := by have := b.toNat_lt; omega
          have hwb : IntKind.i64.wrap (b.toNat : Int) = (b.toNat : Int) := IntWalk.i64_in _ (by omega)
          have hzi : (b.toNat : Int) / 2 ^ r = (z : Int) := by
            have e2 : ((2 : Int) ^ r) = ((2 ^ r : Nat) : Int) := by simp
            rw [e2, ← hz]; rfl
          have hz256 : (z : Int) < 256 := by have : b.toNat / 2 ^ r ≤ b.toNat := Nat.div_le_self _ _; omega
          have hz0 : (0 : Int) ≤ (z : Int) := by omega
          have hbb : (((z : Int) % 2) == 1) = bt := by
            rw [← hbit, Bool.eq_iff_iff]; simp; omega
          have FK := FA.out k hlt
          rw [hbt] at FK
          have hts : F.take (k + 1) = F.take k ++ [bt] := by
            have hkl : k < F.length := by rw [FL.out]; exact hlt
            rw [List.take_succ_eq_append_getElem hkl]
            rw [List.getElem?_eq_getElem hkl] at FK
            cases FK; rfl
          have TS := Lib.hid hts
          have RK : Hid (∀ c, RowN (wr.alloc c) 4 1 gp _ k ((F.take k).map Value.bool)) := Lib.hid (fun c => RH.out.kept (Kept.alloc wr c) (by simp))
          clear hq hr hbt hgd hbit FK hts hz
          go_wp2_with (first
            | (at_builtin; refine wpList_append_rown rfl _ _ 28 28 rfl 4 (.bool false) 1 1 Tryd.underlying28 info4 rfl k _ rfl (RK.out _) _ rfl 1 [_] (src_of_one wr _ rfl _ _ _ _ Tryd.underlying28 rfl) (by decide) (by simp [maxLen]; omega) (by omega) ?_; intro g' o' cap' w1 hr1 hk1 hg1)
            | fail)
          have F1 : RowN w1 4 1 [g'] (.slice (some ⟨g', o', none⟩) (k + 1) cap') (k + 1) ((F.take (k + 1)).map Value.bool) := .inr ⟨g', o', cap', by simp, by simp, by rw [TS.out]; simpa using hr1⟩
          have F2 : ∀ x ∈ [g'], w.heap.size + 3 ≤ x ∧ x < w1.heap.size := fun x hx => by
            simp at hx
            subst hx
            refine ⟨?_, hr1.lt⟩
            rcases hg1 with h3 | h3
            · exact (GP.out _ h3).1
            · have := BH.out.size; have := S3.out; rw [size_alloc1] at h3; omega
          have F3 : Below W3.heap.size W3 w1 := below_kept (BH.out.alloc BH.out.size _) hk1 (fun x hx => by have := (GP.out x hx).1; rw [S3.out]; omega) (Nat.le_refl _)
          exact ⟨⟨k + 1, [g'], by omega, by go_num, F1, F2, F3⟩, by simp [intOf]; omega⟩
        · obtain rfl : k = N := by omega
          have hY : ∃ Y cap, u15 = .slice Y k cap ∧ Cells wr Y ((F.take k).map Value.bool) ∧ ∀ b o, Y = some ⟨b, o, none⟩ → w.heap.size + 3 ≤ b := by
            rcases RH.out with ⟨h1, h2, h3⟩ | ⟨g, o, cap, h1, h2, h3⟩
            · exact ⟨none, 0, by rw [h1, h2], by rw [h3]; exact Cells.nil _ _, fun b o h => by cases h⟩
            · exact ⟨_, cap, h1, h3.cells, fun b o h => by cases h; exact (GP.out _ h2).1⟩
          clear RH
          obtain ⟨Y, cap, rfl, hC, hY⟩ := hY
          have hts : F.take k = F := List.take_of_length_le (by rw [FL.out]; exact Nat.le_refl _)
          rw [hts] at hC
          have CF := Lib.hid (And.intro hC hY)
          have RF := Lib.hid (refFlags_any Y cap F wr.drew hC (by have := FL.out; omega))
          rw [FL.out] at RF
          have hk0 : (0 : Int) ≤ (k : Int) := by omega
          have ER : Hid ((s.extract 0 m).data.toList = s.data.toList.take m) := Lib.hid (extract_take s m)
          obtain ⟨T, hT⟩ : ∃ T, s.extract 0 m = T := ⟨_, rfl⟩
          obtain ⟨U, hU⟩ : ∃ U, strB (flagsL F) = U := ⟨_, rfl⟩
          rw [hT] at ER
          rw [hU] at RF
          have hUT : (U = T) ↔ overF s.data.toList k m = false := by
            have hUl : U.data.toList = flagsL F := by rw [← hU]; simp [strB]
            have hms2 : m ≤ s.data.toList.length := by rw [LEN.out]; exact hms
            constructor
            · intro h
              by_cases ho : overF s.data.toList k m = true
              · exfalso
                apply over_flags s.data.toList k m MM.out ho
                rw [FH.out, ← hUl, h, ER.out]
              · simpa using ho
            · intro h
              have := flags_form s.data.toList k m MM.out hms2 h
              rw [FH.out] at this
              exact ByteArray.ext (Array.toList_inj.1 (by rw [hUl, this, ER.out]))
          have TT := Lib.hid hT
          have UT := Lib.hid hUT
          clear hC hY hts hT hU hUT
          cases hov : overF s.data.toList k m with
          | true =>
            have hne : (U.toList == (s.extract 0 m).toList) = false := by rw [TT.out, bytes_eq, decide_eq_false_iff_not]; intro h; rw [UT.out.1 h] at hov; cases hov
            rw [hov] at N0
            have N1 := N0.out
            rw [if_pos rfl] at N1
            have NH := Lib.hid N1
            clear hov N0 N1
            go_wp2_with fail
            go_region_with ((first | (go_at_call 58; refine RF.out.mono ?_; rintro e w5 ⟨rfl, hbel⟩)))
            have B5 := Lib.hid ((BH.out.trans (show Below W3.heap.size wr wr.drew from ⟨rfl, rfl, rfl, Nat.le_refl _, fun _ _ => rfl⟩)).trans (hbel.mono BH.out.size))
            have hb1 := (B5.out.block (w.heap.size + 1) (by rw [S3.out]; omega)).trans A3.out.2.1
            have hb2 := (B5.out.block (w.heap.size + 2) (by rw [S3.out]; omega)).trans A3.out.2.2
            have HB := Lib.hid (And.intro hb1 hb2)
            have BL := Lib.hid hbel
            clear hbel hb1 hb2
            have e0 : w5.cell? ⟨w.heap.size + 1, 0, none⟩ = some (.int .i64 0) := by simp [World.cell?, HB.out.1]
            have e1 : w5.cell? ⟨w.heap.size + 1, 1, none⟩ = some (.int .i64 0) := by simp [World.cell?, HB.out.1]
            have e2 : w5.cell? ⟨w.heap.size + 1, 2, none⟩ = some (.string ⟨#[]⟩) := by simp [World.cell?, HB.out.1]
            have e3 : w5.cell? ⟨w.heap.size + 1, 3, none⟩ = some (.slice none 0 0) := by simp [World.cell?, HB.out.1]
            have fe0 : w5.frozen? ⟨w.heap.size + 1, 0, none⟩ = false := by simp [World.frozen?, HB.out.1]
            have fe1 : w5.frozen? ⟨w.heap.size + 1, 1, none⟩ = false := by simp [World.frozen?, HB.out.1]
            have fe2 : w5.frozen? ⟨w.heap.size + 1, 2, none⟩ = false := by simp [World.frozen?, HB.out.1]
            have fe3 : w5.frozen? ⟨w.heap.size + 1, 3, none⟩ = false := by simp [World.frozen?, HB.out.1]
            have g0 : w5.cell? ⟨w.heap.size + 1 + 1, 0, none⟩ = some (.int .i64 6) := by simp [World.cell?, HB.out.2]
            have g1 : w5.cell? ⟨w.heap.size + 1 + 1, 1, none⟩ = some (.int .i64 0) := by simp [World.cell?, HB.out.2]
            have g2 : w5.cell? ⟨w.heap.size + 1 + 1, 2, none⟩ = some (.string ⟨#[]⟩) := by simp [World.cell?, HB.out.2]
            have g3 : w5.cell? ⟨w.heap.size + 1 + 1, 3, none⟩ = some (.slice none 0 0) := by simp [World.cell?, HB.out.2]
            go_wp2_with fail
            have KK : Kept [w.heap.size + 1] w5 ((((w5.setCell ⟨w.heap.size + 1, 0, none⟩ (.int .i64 6)).setCell ⟨w.heap.size + 1, 1, none⟩ (.int .i64 0)).setCell ⟨w.heap.size + 1, 2, none⟩ (.string ⟨#[]⟩)).setCell ⟨w.heap.size + 1, 3, none⟩ (.slice none 0 0)) :=
              ((((Kept.setCell _ (w.heap.size + 1) 0 _).mono (by simp)).trans (Kept.setCell _ (w.heap.size + 1) 1 _) (by simp)).trans (Kept.setCell _ (w.heap.size + 1) 2 _) (by simp)).trans (Kept.setCell _ (w.heap.size + 1) 3 _) (by simp)
            exact bodyPost_ret (v := .tuple #[.agg #[.int .i64 6, .int .i64 0, .string ⟨#[]⟩, .slice none 0 0], .string s, .bool false]) (by simp [results, Tryd.results22, go_sem, e0, e1, e2, e3]) rfl (took w _ 6 s _ ⟨6, 0, ⟨#[]⟩, [], none, 0⟩ s false (by rw [NH.out]; rfl) rfl rfl rfl (by rw [NH.out]) (by rw [NH.out]) (Nat.le_refl _) (Cells.nil _ _) (below_kept (BW.out.trans (B5.out.mono BW.out.size)) KK (by simp) (Nat.le_refl _)) (by intro _ _ h; cases h))
          | false =>
            have hne : (U.toList == (s.extract 0 m).toList) = true := by rw [TT.out, bytes_eq, decide_eq_true_eq]; exact UT.out.2 hov
            rw [hov] at N0
            have N1 := N0.out
            rw [if_neg (by simp)] at N1
            have NH := Lib.hid N1
            clear hov N0 N1
            go_wp2_with fail
            go_region_with ((first | (go_at_call 58; refine RF.out.mono ?_; rintro e w5 ⟨rfl, hbel⟩)))
            have B5 := Lib.hid ((BH.out.trans (show Below W3.heap.size wr wr.drew from ⟨rfl, rfl, rfl, Nat.le_refl _, fun _ _ => rfl⟩)).trans (hbel.mono BH.out.size))
            have hb1 := (B5.out.block (w.heap.size + 1) (by rw [S3.out]; omega)).trans A3.out.2.1
            have hb2 := (B5.out.block (w.heap.size + 2) (by rw [S3.out]; omega)).trans A3.out.2.2
            have HB := Lib.hid (And.intro hb1 hb2)
            have BL := Lib.hid hbel
            clear hbel hb1 hb2
            have e0 : w5.cell? ⟨w.heap.size + 1, 0, none⟩ = some (.int .i64 0) := by simp [World.cell?, HB.out.1]
            have e1 : w5.cell? ⟨w.heap.size + 1, 1, none⟩ = some (.int .i64 0) := by simp [World.cell?, HB.out.1]
            have e2 : w5.cell? ⟨w.heap.size + 1, 2, none⟩ = some (.string ⟨#[]⟩) := by simp [World.cell?, HB.out.1]
            have e3 : w5.cell? ⟨w.heap.size + 1, 3, none⟩ = some (.slice none 0 0) := by simp [World.cell?, HB.out.1]
            have fe0 : w5.frozen? ⟨w.heap.size + 1, 0, none⟩ = false := by simp [World.frozen?, HB.out.1]
            have fe1 : w5.frozen? ⟨w.heap.size + 1, 1, none⟩ = false := by simp [World.frozen?, HB.out.1]
            have fe2 : w5.frozen? ⟨w.heap.size + 1, 2, none⟩ = false := by simp [World.frozen?, HB.out.1]
            have fe3 : w5.frozen? ⟨w.heap.size + 1, 3, none⟩ = false := by simp [World.frozen?, HB.out.1]
            have g0 : w5.cell? ⟨w.heap.size + 1 + 1, 0, none⟩ = some (.int .i64 6) := by simp [World.cell?, HB.out.2]
            have g1 : w5.cell? ⟨w.heap.size + 1 + 1, 1, none⟩ = some (.int .i64 0) := by simp [World.cell?, HB.out.2]
            have g2 : w5.cell? ⟨w.heap.size + 1 + 1, 2, none⟩ = some (.string ⟨#[]⟩) := by simp [World.cell?, HB.out.2]
            have g3 : w5.cell? ⟨w.heap.size + 1 + 1, 3, none⟩ = some (.slice none 0 0) := by simp [World.cell?, HB.out.2]
            go_wp2_with fail
            go_region_with (fail)
            go_wp2_with fail
            have KK : Kept [w.heap.size + 1] w5 (((((w5.drew.setCell ⟨w.heap.size + 1, 0, none⟩ (.int .i64 6)).setCell ⟨w.heap.size + 1, 1, none⟩ (.int .i64 0)).setCell ⟨w.heap.size + 1, 2, none⟩ (.string ⟨#[]⟩)).setCell ⟨w.heap.size + 1, 3, none⟩ (.slice Y k cap))) :=
              ((((((Kept.refl [w.heap.size + 1] w5).drew).trans (Kept.setCell _ (w.heap.size + 1) 0 _) (by simp)).trans (Kept.setCell _ (w.heap.size + 1) 1 _) (by simp)).trans (Kept.setCell _ (w.heap.size + 1) 2 _) (by simp)).trans (Kept.setCell _ (w.heap.size + 1) 3 _) (by simp))
            have hfl := FL.out
            exact bodyPost_ret (v := .tuple #[.agg #[.int .i64 6, .int .i64 0, .string ⟨#[]⟩, .slice Y k cap], .string (s.extract m s.size), .bool true]) (by simp [results, Tryd.results22, go_sem, e0, e1, e2, e3, Act.put]) rfl (by
              have h := took w (((((w5.drew.setCell ⟨w.heap.size + 1, 0, none⟩ (.int .i64 6)).setCell ⟨w.heap.size + 1, 1, none⟩ (.int .i64 0)).setCell ⟨w.heap.size + 1, 2, none⟩ (.string ⟨#[]⟩)).setCell ⟨w.heap.size + 1, 3, none⟩ (.slice Y k cap))) 6 s (((Rdr.mk s.data.toList false).flags (k : Int)).1, 0, [], ((Rdr.mk s.data.toList false).flags (k : Int)).2) ⟨6, 0, ⟨#[]⟩, F, Y, cap⟩ (s.extract m s.size) true (by rw [NH.out]; rfl) rfl rfl rfl (by rw [NH.out, FH.out]) (by rw [NH.out]; exact extract_list s m) (by simp only [ByteArray.size_extract]; omega) ((Cells.below (w := wr.drew) (w' := w5) CF.out.1 BL.out).kept KK (fun b o hb => by have := CF.out.2 b o hb; simp; omega)) (below_kept (BW.out.trans (B5.out.mono BW.out.size)) KK (by simp) (Nat.le_refl _)) (fun b o hb => by have := CF.out.2 b o hb; omega)
              rw [show ((⟨6, 0, ⟨#[]⟩, F, Y, cap⟩ : It).fl.length) = k from hfl] at h
              exact h)

end Go.Proofs.YtgdbpicelnoacaaDoor
