/- The document's operations on words and the program's are the same. -/
import Derived.Test.YtocnkjhicbmmoaaA2
import Derived.Test.YtocnkjhicbmmoaaQ23
namespace Go.Proofs.Ytocnkjhicbmmoaa.Q
open Go.RowKit Go.Proofs.YtocnkjhicbmmoaaW.PrintWords Go.Proofs.YtocnkjhicbmmoaaW.PrintLast
set_option linter.unusedVariables false
set_option linter.unusedSimpArgs false

theorem wrapu64 {x : Int} (h0 : 0 ≤ x) (h1 : x < 18446744073709551616) : IntKind.u64.wrap x = x := by
  simp only [IntKind.wrap, IntKind.bits, IntKind.signed]
  simp
  omega
theorem tmod_nonneg {x y : Int} (h : 0 ≤ x) : Int.tmod x y = x % y := Int.tmod_eq_emod_of_nonneg h
theorem tdiv_nonneg {x y : Int} (h : 0 ≤ x) : Int.tdiv x y = x / y := Int.tdiv_eq_ediv_of_nonneg h

/-- The bits of a number, the low end first. -/
def bitl (n m : Nat) : List Int := (List.range m).map fun i => if n.testBit i then 1 else 0
theorem bitl_succ (n m : Nat) : bitl n (m + 1) = bitl n m ++ [if n.testBit m then 1 else 0] := by simp [bitl, List.range_succ]
theorem testBit_mod (n i : Nat) : (if n.testBit i then (1 : Int) else 0) = ((n / 2 ^ i % 2 : Nat) : Int) := by
  rw [Nat.testBit_eq_decide_div_mod_eq]
  have h2 := Nat.mod_two_eq_zero_or_one (n / 2 ^ i)
  rcases h2 with h | h
  · rw [h]; rfl
  · rw [h]; rfl
theorem half (n i : Nat) : n / 2 ^ (i + 1) = n / 2 ^ i / 2 := by rw [Nat.pow_succ, ← Nat.div_div_eq_div_mul]
theorem bits_l0 (n : Nat) (hn : n < 4294967296) : ∀ (d i k : Nat), i + d = 32 → d + 1 ≤ k → seedcornref01_Bits.l0 k ((n / 2 ^ i : Nat) : Int) (bitl n i) i = some (bitl n 32)
  | 0, i, k, hi, hk => by
    obtain ⟨k, rfl⟩ : ∃ q, k = q + 1 := ⟨k - 1, by omega⟩
    simp only [seedcornref01_Bits.l0]
    rw [if_neg (by omega), show i = 32 by omega]
  | d + 1, i, k, hi, hk => by
    obtain ⟨k, rfl⟩ : ∃ q, k = q + 1 := ⟨k - 1, by omega⟩
    have ih := bits_l0 n hn d (i + 1) k (by omega) (by omega)
    have hl : (bitl n i).length = i := by simp [bitl]
    have hb := bitl_succ n i
    rw [testBit_mod] at hb
    have hle := Nat.div_le_self n (2 ^ i)
    rw [half] at ih
    rw [hb] at ih
    generalize n / 2 ^ i = m at ih hle ⊢
    simp only [seedcornref01_Bits.l0]
    rw [if_pos (by omega), if_pos (by rw [hl]; omega), tdiv_nonneg (by omega), tmod_nonneg (by omega)]
    have e1 : (m : Int) / 2 % 4294967296 = ((m / 2 : Nat) : Int) := by omega
    have e2 : wrap64 ((m : Int) % 2) = ((m % 2 : Nat) : Int) := by unfold wrap64; omega
    have e3 : wrap64 ((i : Int) + 1) = ((i + 1 : Nat) : Int) := by unfold wrap64; omega
    rw [e1, e2, e3]
    exact ih
theorem bits_is (n : Nat) (hn : n < 4294967296) (k : Nat) (hk : 33 ≤ k) : seedcornref01_Bits.f k n = some (bitl n 32) := by
  have h := bits_l0 n hn 32 0 k rfl hk
  rw [Nat.pow_zero, Nat.div_one] at h
  exact h
theorem bitl_get (n : Nat) {m i : Nat} (hi : i < m) : rd (bitl n m) i = if n.testBit i then 1 else 0 := by
  simp [rd, bitl, hi]
theorem of_l0 (n : Nat) (hn : n < 4294967296) : ∀ (i k : Nat), i ≤ 32 → i + 1 ≤ k → seedcornref01_Of.l0 k (bitl n 32) ((n / 2 ^ i : Nat) : Int) ((i : Int) - 1) = some (n : Int)
  | 0, k, hi, hk => by
    obtain ⟨k, rfl⟩ : ∃ q, k = q + 1 := ⟨k - 1, by omega⟩
    rw [Nat.pow_zero, Nat.div_one]
    simp only [seedcornref01_Of.l0]
    rw [if_neg (by omega), tmod_nonneg (by omega)]
    congr 1
    omega
  | i + 1, k, hi, hk => by
    obtain ⟨k, rfl⟩ : ∃ q, k = q + 1 := ⟨k - 1, by omega⟩
    have ih := of_l0 n hn i k (by omega) (by omega)
    have hle := Nat.div_le_self n (2 ^ i)
    have hb : (((i + 1 : Nat) : Int) - 1) = (i : Int) := by omega
    have hl : ((bitl n 32).length : Int) = 32 := by simp [bitl]
    have hg := bitl_get n (m := 32) (i := i) (by omega)
    rw [testBit_mod] at hg
    rw [half]
    generalize n / 2 ^ i = m at ih hle hg ⊢
    simp only [seedcornref01_Of.l0]
    rw [hb, if_pos (by omega), if_pos (by omega), if_pos (by omega), hg]
    have e1 : IntKind.u64.wrap (IntKind.u64.wrap (2 * ((m / 2 : Nat) : Int)) + IntKind.u64.wrap ((m % 2 : Nat) : Int)) = (m : Int) := by
      rw [wrapu64 (x := 2 * ((m / 2 : Nat) : Int)) (by omega) (by omega), wrapu64 (x := ((m % 2 : Nat) : Int)) (by omega) (by omega), wrapu64 (by omega) (by omega)]
      omega
    have e2 : wrap64 ((i : Int) - 1) = (i : Int) - 1 := by unfold wrap64; omega
    rw [e1, e2]
    exact ih
theorem of_is (n : Nat) (hn : n < 4294967296) (k : Nat) (hk : 33 ≤ k) : seedcornref01_Of.f k (bitl n 32) = some (n : Int) := by
  have h := of_l0 n hn 32 k (Nat.le_refl _) hk
  have hz : n / 2 ^ 32 = 0 := Nat.div_eq_of_lt hn
  rw [hz] at h
  unfold seedcornref01_Of.f
  have hl : ((bitl n 32).length : Int) = 32 := by simp [bitl]
  rw [hl]
  have e2 : wrap64 ((32 : Int) - 1) = ((32 : Nat) : Int) - 1 := by unfold wrap64; omega
  rw [e2]
  exact h
theorem bits32 (n : Nat) : Bits32 (bitl n 32) := by
  refine ⟨by simp [bitl], fun x hx => ?_⟩
  simp only [bitl, List.mem_map] at hx
  obtain ⟨i, _, rfl⟩ := hx
  split <;> omega
theorem both_bitl (op : Int) (a b c : Nat) (h : ∀ i, i < 32 → bo op ((if a.testBit i then 1 else 0) + (if b.testBit i then 1 else 0)) = if c.testBit i then 1 else 0) : bothL op (bitl a 32) (bitl b 32) = bitl c 32 := by
  apply List.ext_getElem
  · simp [bothL, bitl]
  · intro i h1 h2
    have hi : i < 32 := by simpa [bitl] using h2
    simp only [bothL, bitl, List.getElem_zipWith, List.getElem_map, List.getElem_range]
    exact h i hi
theorem both_is (op : Int) (a b c : Nat) (ha : a < 4294967296) (hb : b < 4294967296) (hc : c < 4294967296) (h : ∀ i, i < 32 → bo op ((if a.testBit i then 1 else 0) + (if b.testBit i then 1 else 0)) = if c.testBit i then 1 else 0) (k : Nat) (hk : 33 ≤ k) : seedcornref01_both.f k op a b = some (c : Int) := by
  unfold seedcornref01_both.f
  rw [bits_is a ha k hk, bits_is b hb k hk]
  simp only [Option.bind_some]
  rw [if_pos ⟨bits32 a, bits32 b⟩, both_bitl op a b c h]
  exact of_is c hc k hk
theorem ofInt_nat (a : Nat) (ha : a < 4294967296) : (BitVec.ofInt 32 (a : Int)).toNat = a := by
  rw [BitVec.toNat_ofInt]
  omega
theorem wrapu32 (c : Nat) (hc : c < 4294967296) : IntKind.u32.wrap (c : Int) = c := by
  simp only [IntKind.wrap, IntKind.bits, IntKind.signed]
  simp
  omega
theorem and_is (a b : Nat) (ha : a < 4294967296) (hb : b < 4294967296) (k : Nat) (hk : 33 ≤ k) : seedcornref01_both.f k 9 a b = some (Go.bits .and .u32 a b) := by
  have hc : a &&& b < 4294967296 := Nat.lt_of_le_of_lt Nat.and_le_left ha
  rw [both_is 9 a b (a &&& b) ha hb hc (fun i hi => by rw [Nat.testBit_and]; cases a.testBit i <;> cases b.testBit i <;> simp [bo]) k hk]
  congr 1
  unfold Go.bits
  show ((a &&& b : Nat) : Int) = IntKind.u32.wrap ((BitVec.ofInt 32 (a : Int) &&& BitVec.ofInt 32 (b : Int)).toNat : Int)
  rw [BitVec.toNat_and, ofInt_nat a ha, ofInt_nat b hb, wrapu32 _ hc]
theorem or_is (a b : Nat) (ha : a < 4294967296) (hb : b < 4294967296) (k : Nat) (hk : 33 ≤ k) : seedcornref01_both.f k 10 a b = some (Go.bits .or .u32 a b) := by
  have hc : a ||| b < 4294967296 := Nat.or_lt_two_pow (n := 32) ha hb
  rw [both_is 10 a b (a ||| b) ha hb hc (fun i hi => by rw [Nat.testBit_or]; cases a.testBit i <;> cases b.testBit i <;> simp [bo]) k hk]
  congr 1
  unfold Go.bits
  show ((a ||| b : Nat) : Int) = IntKind.u32.wrap ((BitVec.ofInt 32 (a : Int) ||| BitVec.ofInt 32 (b : Int)).toNat : Int)
  rw [BitVec.toNat_or, ofInt_nat a ha, ofInt_nat b hb, wrapu32 _ hc]
theorem xor_is (a b : Nat) (ha : a < 4294967296) (hb : b < 4294967296) (k : Nat) (hk : 33 ≤ k) : seedcornref01_both.f k 11 a b = some (Go.bits .xor .u32 a b) := by
  have hc : a ^^^ b < 4294967296 := Nat.xor_lt_two_pow (n := 32) ha hb
  rw [both_is 11 a b (a ^^^ b) ha hb hc (fun i hi => by rw [Nat.testBit_xor]; cases a.testBit i <;> cases b.testBit i <;> simp [bo]) k hk]
  congr 1
  unfold Go.bits
  show ((a ^^^ b : Nat) : Int) = IntKind.u32.wrap ((BitVec.ofInt 32 (a : Int) ^^^ BitVec.ofInt 32 (b : Int)).toNat : Int)
  rw [BitVec.toNat_xor, ofInt_nat a ha, ofInt_nat b hb, wrapu32 _ hc]
theorem shl_l0 (a b : Nat) (hb : b < 32) : ∀ (d i k : Nat), i + d = b → d + 1 ≤ k → ∀ x : Nat, x = a * 2 ^ i % 4294967296 → seedcornref01_shift.l0 k 12 b x i = some ((a * 2 ^ b % 4294967296 : Nat) : Int)
  | 0, i, k, hi, hk, x, hx => by
    obtain ⟨k, rfl⟩ : ∃ q, k = q + 1 := ⟨k - 1, by omega⟩
    simp only [seedcornref01_shift.l0]
    rw [if_neg (by omega), hx, show i = b by omega]
    congr 1
    have : a * 2 ^ b % 4294967296 < 4294967296 := Nat.mod_lt _ (by omega)
    omega
  | d + 1, i, k, hi, hk, x, hx => by
    obtain ⟨k, rfl⟩ : ∃ q, k = q + 1 := ⟨k - 1, by omega⟩
    have hlt : x < 4294967296 := by rw [hx]; exact Nat.mod_lt _ (by omega)
    simp only [seedcornref01_shift.l0]
    rw [if_pos (by omega), if_pos trivial, wrapu64 (by omega) (by omega), tmod_nonneg (by omega)]
    have e1 : 2 * (x : Int) % 4294967296 = ((a * 2 ^ (i + 1) % 4294967296 : Nat) : Int) := by
      have : 2 * x % 4294967296 = a * 2 ^ (i + 1) % 4294967296 := by
        rw [hx, Nat.pow_succ, ← Nat.mul_assoc, Nat.mul_comm 2, Nat.mod_mul_mod]
      omega
    have e2 : ((i : Int) + 1) % 4294967296 = ((i + 1 : Nat) : Int) := by omega
    rw [e1, e2]
    exact shl_l0 a b hb d (i + 1) k (by omega) (by omega) _ rfl
theorem shr_l0 (a b : Nat) (ha : a < 4294967296) (hb : b < 32) : ∀ (d i k : Nat), i + d = b → d + 1 ≤ k → seedcornref01_shift.l0 k 13 b ((a / 2 ^ i : Nat) : Int) i = some ((a / 2 ^ b : Nat) : Int)
  | 0, i, k, hi, hk => by
    obtain ⟨k, rfl⟩ : ∃ q, k = q + 1 := ⟨k - 1, by omega⟩
    rw [show i = b by omega]
    have hle := Nat.div_le_self a (2 ^ b)
    generalize a / 2 ^ b = m at hle ⊢
    simp only [seedcornref01_shift.l0]
    rw [if_neg (by omega)]
    congr 1
    omega
  | d + 1, i, k, hi, hk => by
    obtain ⟨k, rfl⟩ : ∃ q, k = q + 1 := ⟨k - 1, by omega⟩
    have ih := shr_l0 a b ha hb d (i + 1) k (by omega) (by omega)
    have hle := Nat.div_le_self a (2 ^ i)
    rw [half] at ih
    generalize a / 2 ^ i = m at ih hle ⊢
    simp only [seedcornref01_shift.l0]
    rw [if_pos (by omega), if_neg (by omega), tdiv_nonneg (by omega), wrapu64 (by omega) (by omega)]
    have e2 : ((i : Int) + 1) % 4294967296 = ((i + 1 : Nat) : Int) := by omega
    have e3 : (m : Int) / 2 = ((m / 2 : Nat) : Int) := by omega
    rw [e2, e3]
    exact ih
theorem shl_is (a b : Nat) (ha : a < 4294967296) (k : Nat) (hk : 33 ≤ k) : seedcornref01_shift.f k 12 a b = some (shl .u32 a b) := by
  unfold seedcornref01_shift.f shl
  by_cases h : (b : Int) ≥ 32
  · rw [if_pos h]
    have hm : min (b : Int).toNat IntKind.u32.bits = 32 := by simp [IntKind.bits]; omega
    rw [hm]
    congr 1
    simp only [IntKind.wrap, IntKind.bits, IntKind.signed]
    simp
  · rw [if_neg h, wrapu64 (by omega) (by omega)]
    have hm : min (b : Int).toNat IntKind.u32.bits = b := by simp [IntKind.bits]; omega
    have h0 : seedcornref01_shift.l0 k 12 b a 0 = _ := shl_l0 a b (by omega) b 0 k (by omega) (by omega) a (by simp; omega)
    rw [hm, h0]
    congr 1
theorem shr_is (a b : Nat) (ha : a < 4294967296) (k : Nat) (hk : 33 ≤ k) : seedcornref01_shift.f k 13 a b = some (shr .u32 a b) := by
  unfold seedcornref01_shift.f shr
  by_cases h : (b : Int) ≥ 32
  · rw [if_pos h]
    have hm : min (b : Int).toNat IntKind.u32.bits = 32 := by simp [IntKind.bits]; omega
    rw [hm]
    congr 1
    omega
  · rw [if_neg h, wrapu64 (by omega) (by omega)]
    have hm : min (b : Int).toNat IntKind.u32.bits = b := by simp [IntKind.bits]; omega
    have h0 := shr_l0 a b ha (by omega) b 0 k (by omega) (by omega)
    simp only [Nat.pow_zero, Nat.div_one] at h0
    rw [hm, show ((0 : Int)) = ((0 : Nat) : Int) from rfl, h0]
    simp
theorem flag_is (b : Bool) : seedcornref01_flag.f b = word_truth.f b := rfl

/-- The operations are the same. -/
theorem apply_is {op a b : Int} (h4 : 4 ≤ op) (h15 : op ≤ 15) (ha : U32 a) (hb : U32 b) : seedcornref01_Apply.f 60 op a b = word_Apply.f 1 op a b := by
  obtain ⟨a, rfl⟩ := Int.eq_ofNat_of_zero_le ha.1
  obtain ⟨b, rfl⟩ := Int.eq_ofNat_of_zero_le hb.1
  have ha1 : a < 4294967296 := by have := ha.2; omega
  have hb1 : b < 4294967296 := by have := hb.2; omega
  have n9 := and_is a b ha1 hb1 59 (by omega)
  have n10 := or_is a b ha1 hb1 59 (by omega)
  have n11 := xor_is a b ha1 hb1 59 (by omega)
  have n12 := shl_is a b ha1 58 (by omega)
  have n13 := shr_is a b ha1 58 (by omega)
  have hb0 : (0 : Int) ≤ b := by omega
  obtain e | e | e | e | e | e | e | e | e | e | e | e : op = 4 ∨ op = 5 ∨ op = 6 ∨ op = 7 ∨ op = 8 ∨ op = 9 ∨ op = 10 ∨ op = 11 ∨ op = 12 ∨ op = 13 ∨ op = 14 ∨ op = 15 := by omega
  · subst e
    simp only [seedcornref01_Apply.f, seedcornref01_Apply.j0, seedcornref01_Apply.j1, word_Apply.f, word_Apply.j0, Int.reduceEq, Int.reduceBEq, if_true, if_false, reduceIte, Bool.false_eq_true]
    rw [wrapu64 (x := (a : Int)) (by omega) (by omega), wrapu64 (x := (b : Int)) (by omega) (by omega), wrapu64 (by omega) (by omega), tmod_nonneg (by omega), Int.emod_emod]
  · subst e
    simp only [seedcornref01_Apply.f, seedcornref01_Apply.j0, seedcornref01_Apply.j1, word_Apply.f, word_Apply.j0, Int.reduceEq, Int.reduceBEq, if_true, if_false, reduceIte, Bool.false_eq_true]
    rw [wrapu64 (x := (a : Int)) (by omega) (by omega), wrapu64 (x := (b : Int)) (by omega) (by omega), wrapu64 (x := (a : Int) + 4294967296) (by omega) (by omega), wrapu64 (by omega) (by omega), tmod_nonneg (by omega), Int.emod_emod]
    congr 2
    omega
  · subst e
    simp only [seedcornref01_Apply.f, seedcornref01_Apply.j0, seedcornref01_Apply.j1, word_Apply.f, word_Apply.j0, Int.reduceEq, Int.reduceBEq, if_true, if_false, reduceIte, Bool.false_eq_true]
    have hm : (a : Int) * b < 18446744073709551616 := by
      have : a * b ≤ 4294967295 * 4294967295 := Nat.mul_le_mul (by omega) (by omega)
      have h2 : ((a * b : Nat) : Int) ≤ ((18446744065119617025 : Nat) : Int) := Int.ofNat_le.2 this
      rw [Int.natCast_mul] at h2
      omega
    have hm0 : (0 : Int) ≤ (a : Int) * b := Int.mul_nonneg (by omega) (by omega)
    rw [wrapu64 (x := (a : Int)) (by omega) (by omega), wrapu64 (x := (b : Int)) (by omega) (by omega), wrapu64 hm0 hm, tmod_nonneg hm0, Int.emod_emod]
  · subst e
    simp only [seedcornref01_Apply.f, seedcornref01_Apply.j0, seedcornref01_Apply.j1, word_Apply.f, word_Apply.j0, Int.reduceEq, Int.reduceBEq, if_true, if_false, reduceIte, Bool.false_eq_true]
    by_cases h : (b : Int) = 0
    · rw [if_pos h, if_pos h]
    · rw [if_neg h, if_neg h, wrapu64 (x := (b : Int)) (by omega) (by omega), if_neg h, wrapu64 (x := (a : Int)) (by omega) (by omega), tdiv_nonneg (by omega)]
      have h1 : (0 : Int) ≤ (a : Int) / b := Int.ediv_nonneg (by omega) (by omega)
      have h2 : (a : Int) / b ≤ a := Int.ediv_le_self _ (by omega)
      rw [wrapu64 h1 (by omega)]
  · subst e
    simp only [seedcornref01_Apply.f, seedcornref01_Apply.j0, seedcornref01_Apply.j1, word_Apply.f, word_Apply.j0, Int.reduceEq, Int.reduceBEq, if_true, if_false, reduceIte, Bool.false_eq_true]
    by_cases h : (b : Int) = 0
    · rw [if_pos h, if_pos h]
    · rw [if_neg h, if_neg h, wrapu64 (x := (b : Int)) (by omega) (by omega), if_neg h, wrapu64 (x := (a : Int)) (by omega) (by omega), tmod_nonneg (by omega)]
      have h1 : (0 : Int) ≤ (a : Int) % b := Int.emod_nonneg _ h
      have h2 : (a : Int) % b < b := Int.emod_lt_of_pos _ (by omega)
      congr 2
      omega
  · subst e
    simp only [seedcornref01_Apply.f, seedcornref01_Apply.j0, seedcornref01_Apply.j1, word_Apply.f, word_Apply.j0, Int.reduceEq, Int.reduceBEq, if_true, if_false, reduceIte, Bool.false_eq_true]
    rw [n9]
    simp only [Option.bind_some]
  · subst e
    simp only [seedcornref01_Apply.f, seedcornref01_Apply.j0, seedcornref01_Apply.j1, word_Apply.f, word_Apply.j0, Int.reduceEq, Int.reduceBEq, if_true, if_false, reduceIte, Bool.false_eq_true]
    rw [n10]
    simp only [Option.bind_some]
  · subst e
    simp only [seedcornref01_Apply.f, seedcornref01_Apply.j0, seedcornref01_Apply.j1, word_Apply.f, word_Apply.j0, Int.reduceEq, Int.reduceBEq, if_true, if_false, reduceIte, Bool.false_eq_true]
    rw [n11]
    simp only [Option.bind_some]
  · subst e
    simp only [seedcornref01_Apply.f, seedcornref01_Apply.j0, seedcornref01_Apply.j1, word_Apply.f, word_Apply.j0, Int.reduceEq, Int.reduceBEq, if_true, if_false, reduceIte, Bool.false_eq_true]
    rw [n12, if_pos hb0]
    simp only [Option.bind_some]
  · subst e
    simp only [seedcornref01_Apply.f, seedcornref01_Apply.j0, seedcornref01_Apply.j1, word_Apply.f, word_Apply.j0, Int.reduceEq, Int.reduceBEq, if_true, if_false, reduceIte, Bool.false_eq_true]
    rw [n13, if_pos hb0]
    simp only [Option.bind_some]
  · subst e
    simp only [seedcornref01_Apply.f, seedcornref01_Apply.j0, seedcornref01_Apply.j1, word_Apply.f, word_Apply.j0, Int.reduceEq, Int.reduceBEq, if_true, if_false, reduceIte, Bool.false_eq_true]
    rfl
  · subst e
    simp only [seedcornref01_Apply.f, seedcornref01_Apply.j0, seedcornref01_Apply.j1, word_Apply.f, word_Apply.j0, Int.reduceEq, Int.reduceBEq, if_true, if_false, reduceIte, Bool.false_eq_true]
    rfl
/-- The document's operations, as a function. -/
def refApp (op a b : Int) : Option (Int × Int) := seedcornref01_Apply.f 60 op a b
end Go.Proofs.Ytocnkjhicbmmoaa.Q
