/- Bytes there and back: numbers, texts, values. Values, rows, columns as bytes there and back. Statements as bytes there and back. What was encoded is decoded as it was; what was decoded is encoded as it stood: the law in plain words. -/
import Derived.Test.YtbmaeaknlpgdmaaA26
import Derived.Test.YtbmaeaknlpgdmaaA02
import Derived.Test.YtbmaeaknlpgdmaaA23
import Derived.Test.YtbmaeaknlpgdmaaA24
namespace Go.Proofs.Ytbmaeaknlpgdmaa
open Go.RowKit
set_option linter.unusedVariables false
set_option linter.unusedSimpArgs false
set_option linter.constructorNameAsVariable false
theorem ba_ext {a b : ByteArray} (hs : a.size = b.size) (h : ∀ i, i < a.size → byteAt a i = byteAt b i) : a = b :=
  ByteArray.ext_getElem hs fun i hi hi' => by
    have := h i hi
    rw [byteAt_ hi, byteAt_ hi'] at this
    exact UInt8.toNat_inj.1 this
theorem at_nums (l : List Int) (i : Nat) (h : i < l.length) : byteAt (strOfNums l) i = l[i].toNat % 256 := by
  have h1 : i < (strOfNums l).size := by rw [strOfNums_size]; exact h
  rw [byteAt_ h1]
  have e : (strOfNums l)[i] = (strOfNums l).data[i]'h1 := rfl
  rw [e]
  simp [strOfNums]
theorem at_ext {r : ByteArray} {a b i : Nat} (h : i < min b r.size - a) : byteAt (r.extract a b) i = byteAt r (a + i) := by
  have h1 : i < (r.extract a b).size := by rw [extract_sz]; exact h
  have h2 : a + i < r.size := by omega
  rw [byteAt_ h1, byteAt_ h2, ByteArray.getElem_extract]
theorem at_left {a b : ByteArray} {i : Nat} (h : i < a.size) : byteAt (a ++ b) i = byteAt a i := by
  have h1 : i < (a ++ b).size := by rw [ByteArray.size_append]; omega
  rw [byteAt_ h1, byteAt_ h, ByteArray.getElem_append_left h]
theorem cut_at {b : ByteArray} {n : Nat} (h : n ≤ b.size) : b = b.extract 0 n ++ b.extract n b.size := by
  rw [ByteArray.extract_append_extract, Nat.min_eq_left (Nat.zero_le n), Nat.max_eq_right h, ByteArray.extract_zero_size]
theorem one_ext {b : ByteArray} (h : 1 ≤ b.size) : b.extract 0 1 = strOfNums [(byteAt b 0 : Int)] := by
  refine ba_ext (by rw [extract_sz, strOfNums_size]; simp; omega) fun i hi => ?_
  rw [extract_sz] at hi
  obtain rfl : i = 0 := by omega
  rw [at_ext (by omega), at_nums _ 0 (by simp)]
  have := byteAt_lt b 0
  simp
  omega
theorem numD_split {b b' : ByteArray} {k : Nat} (h : numD b = some (k, b')) : b = strOfNums [(k : Int)] ++ b' ∧ k < 256 := by
  unfold numD at h
  split at h
  · rename_i h1
    cases h
    refine ⟨?_, byteAt_lt b 0⟩
    rw [← one_ext h1]
    exact cut_at h1
  · cases h
theorem takeD_split {b s b' : ByteArray} {n : Nat} (h : takeD n b = some (s, b')) : b = s ++ b' ∧ s.size = n := by
  unfold takeD at h
  split at h
  · rename_i h1
    cases h
    exact ⟨cut_at h1, by rw [extract_sz]; omega⟩
  · cases h
theorem numD_join {k : Nat} (h : k < 256) (r : ByteArray) : numD (strOfNums [(k : Int)] ++ r) = some (k, r) := by
  have hs : (strOfNums [(k : Int)]).size = 1 := by rw [strOfNums_size]; rfl
  unfold numD
  rw [if_pos (by rw [ByteArray.size_append]; omega), at_left (by omega), at_nums _ 0 (by simp), ByteArray.extract_append_eq_right (by omega) (by rw [ByteArray.size_append])]
  simp
  omega
theorem takeD_join (s r : ByteArray) : takeD s.size (s ++ r) = some (s, r) := by
  unfold takeD
  rw [if_pos (by rw [ByteArray.size_append]; omega), ByteArray.extract_append_eq_left rfl, ByteArray.extract_append_eq_right rfl (by rw [ByteArray.size_append])]
theorem nameD_split {b s b' : ByteArray} (h : nameD b = some (s, b')) : b = nameE s ++ b' := by
  simp only [nameD, Option.bind_eq_some_iff] at h
  obtain ⟨⟨k, c⟩, h1, h2⟩ := h
  obtain ⟨e1, hk⟩ := numD_split h1
  obtain ⟨e2, hn⟩ := takeD_split h2
  simp only at hn e2
  rw [e1, e2, nameE, hn, ByteArray.append_assoc]
theorem nameD_join {s : ByteArray} (h : s.size < 256) (r : ByteArray) : nameD (nameE s ++ r) = some (s, r) := by
  unfold nameD nameE
  rw [ByteArray.append_assoc, numD_join h]
  exact takeD_join s r
theorem flagE_eq (x : Bool) : flagE x = strOfNums [(x.toNat : Int)] := by cases x <;> rfl
theorem flagD_split {b b' : ByteArray} {x : Bool} (h : flagD b = some (x, b')) : b = flagE x ++ b' := by
  simp only [flagD, Option.bind_eq_some_iff] at h
  obtain ⟨⟨k, c⟩, h1, h2⟩ := h
  obtain ⟨e1, hk⟩ := numD_split h1
  split at h2
  · rename_i h3
    simp only at h3
    cases h2
    rw [e1, flagE_eq]
    have h4 : k = 0 ∨ k = 1 := by omega
    rcases h4 with rfl | rfl <;> rfl
  · cases h2
theorem flagD_join (x : Bool) (r : ByteArray) : flagD (flagE x ++ r) = some (x, r) := by
  unfold flagD
  rw [flagE_eq, numD_join (by cases x <;> decide)]
  cases x <;> rfl
theorem numB8 {r : ByteArray} (h : r.size = 8) : numB r = byteAt r 0 * 72057594037927936 + byteAt r 1 * 281474976710656 + byteAt r 2 * 1099511627776 + byteAt r 3 * 4294967296 + byteAt r 4 * 16777216 + byteAt r 5 * 65536 + byteAt r 6 * 256 + byteAt r 7 := by
  have b0 := byteAt_lt r 0; have b1 := byteAt_lt r 1; have b2 := byteAt_lt r 2; have b3 := byteAt_lt r 3
  have b4 := byteAt_lt r 4; have b5 := byteAt_lt r 5; have b6 := byteAt_lt r 6; have b7 := byteAt_lt r 7
  have st : ∀ k, numTo r (k + 1) = (numTo r k * 256 + byteAt r k) % 18446744073709551616 := fun _ => rfl
  have f1 : numTo r 1 = byteAt r 0 := by
    have e : numTo r 1 = (0 * 256 + byteAt r 0) % 18446744073709551616 := st 0
    rw [e]; omega
  have f2 : numTo r 2 = byteAt r 0 * 256 + byteAt r 1 := by
    have e : numTo r 2 = (numTo r 1 * 256 + byteAt r 1) % 18446744073709551616 := st 1
    rw [e, f1]; omega
  have f3 : numTo r 3 = byteAt r 0 * 65536 + byteAt r 1 * 256 + byteAt r 2 := by
    have e : numTo r 3 = (numTo r 2 * 256 + byteAt r 2) % 18446744073709551616 := st 2
    rw [e, f2]; omega
  have f4 : numTo r 4 = byteAt r 0 * 16777216 + byteAt r 1 * 65536 + byteAt r 2 * 256 + byteAt r 3 := by
    have e : numTo r 4 = (numTo r 3 * 256 + byteAt r 3) % 18446744073709551616 := st 3
    rw [e, f3]; omega
  have f5 : numTo r 5 = byteAt r 0 * 4294967296 + byteAt r 1 * 16777216 + byteAt r 2 * 65536 + byteAt r 3 * 256 + byteAt r 4 := by
    have e : numTo r 5 = (numTo r 4 * 256 + byteAt r 4) % 18446744073709551616 := st 4
    rw [e, f4]; omega
  have f6 : numTo r 6 = byteAt r 0 * 1099511627776 + byteAt r 1 * 4294967296 + byteAt r 2 * 16777216 + byteAt r 3 * 65536 + byteAt r 4 * 256 + byteAt r 5 := by
    have e : numTo r 6 = (numTo r 5 * 256 + byteAt r 5) % 18446744073709551616 := st 5
    rw [e, f5]; omega
  have f7 : numTo r 7 = byteAt r 0 * 281474976710656 + byteAt r 1 * 1099511627776 + byteAt r 2 * 4294967296 + byteAt r 3 * 16777216 + byteAt r 4 * 65536 + byteAt r 5 * 256 + byteAt r 6 := by
    have e : numTo r 7 = (numTo r 6 * 256 + byteAt r 6) % 18446744073709551616 := st 6
    rw [e, f6]; omega
  have f8 : numTo r 8 = byteAt r 0 * 72057594037927936 + byteAt r 1 * 281474976710656 + byteAt r 2 * 1099511627776 + byteAt r 3 * 4294967296 + byteAt r 4 * 16777216 + byteAt r 5 * 65536 + byteAt r 6 * 256 + byteAt r 7 := by
    have e : numTo r 8 = (numTo r 7 * 256 + byteAt r 7) % 18446744073709551616 := st 7
    rw [e, f7]; omega
  unfold numB
  rw [h]
  exact f8
theorem at_eight (u i : Nat) (h : i < 8) : byteAt (eightB u) i = u / 256 ^ (7 - i) % 256 := by
  unfold eightB
  rw [at_nums _ i (by simpa using h)]
  have hc : i = 0 ∨ i = 1 ∨ i = 2 ∨ i = 3 ∨ i = 4 ∨ i = 5 ∨ i = 6 ∨ i = 7 := by omega
  rcases hc with rfl | rfl | rfl | rfl | rfl | rfl | rfl | rfl <;> simp <;> omega
theorem eight_num {r : ByteArray} (h : r.size = 8) : eightB (numB r) = r := by
  refine ba_ext (by rw [eightB_size, h]) fun i hi => ?_
  rw [eightB_size] at hi
  rw [at_eight _ i hi, numB8 h]
  have b0 := byteAt_lt r 0; have b1 := byteAt_lt r 1; have b2 := byteAt_lt r 2; have b3 := byteAt_lt r 3
  have b4 := byteAt_lt r 4; have b5 := byteAt_lt r 5; have b6 := byteAt_lt r 6; have b7 := byteAt_lt r 7
  have hc : i = 0 ∨ i = 1 ∨ i = 2 ∨ i = 3 ∨ i = 4 ∨ i = 5 ∨ i = 6 ∨ i = 7 := by omega
  rcases hc with rfl | rfl | rfl | rfl | rfl | rfl | rfl | rfl <;> simp only [Nat.reduceSub, Nat.reducePow] <;> omega
theorem num_eight {u : Nat} (h : u < 18446744073709551616) : numB (eightB u) = u := by
  rw [numB8 (eightB_size u)]
  rw [at_eight u 0 (by omega), at_eight u 1 (by omega), at_eight u 2 (by omega), at_eight u 3 (by omega), at_eight u 4 (by omega), at_eight u 5 (by omega), at_eight u 6 (by omega), at_eight u 7 (by omega)]
  simp only [Nat.reduceSub, Nat.reducePow]
  have d1 : u / 65536 = u / 256 / 256 := by rw [Nat.div_div_eq_div_mul]
  have d2 : u / 16777216 = u / 256 / 256 / 256 := by rw [Nat.div_div_eq_div_mul, Nat.div_div_eq_div_mul]
  have d3 : u / 4294967296 = u / 256 / 256 / 256 / 256 := by simp only [Nat.div_div_eq_div_mul]
  have d4 : u / 1099511627776 = u / 256 / 256 / 256 / 256 / 256 := by simp only [Nat.div_div_eq_div_mul]
  have d5 : u / 281474976710656 = u / 256 / 256 / 256 / 256 / 256 / 256 := by simp only [Nat.div_div_eq_div_mul]
  have d6 : u / 72057594037927936 = u / 256 / 256 / 256 / 256 / 256 / 256 / 256 := by simp only [Nat.div_div_eq_div_mul]
  rw [d1, d2, d3, d4, d5, d6]
  simp only [Nat.pow_zero, Nat.div_one]
  omega
theorem num_two {n : Nat} (h : n < 65536) : numB (strOfNums [(n : Int) / 256, (n : Int) % 256]) = n := by
  unfold numB
  rw [strOfNums_size]
  show numTo _ 2 = n
  simp only [numTo]
  rw [at_nums _ 0 (by simp), at_nums _ 1 (by simp)]
  simp
  omega
theorem two_num {r : ByteArray} (h : r.size = 2) : strOfNums [((numB r : Nat) : Int) / 256, ((numB r : Nat) : Int) % 256] = r := by
  have b0 := byteAt_lt r 0
  have b1 := byteAt_lt r 1
  have e : numB r = byteAt r 0 * 256 + byteAt r 1 := by
    unfold numB
    rw [h]
    simp only [numTo]
    omega
  refine ba_ext (by rw [strOfNums_size, h]; rfl) fun i hi => ?_
  rw [strOfNums_size] at hi
  rw [at_nums _ i hi, e]
  have hc : i = 0 ∨ i = 1 := by simp at hi; omega
  rcases hc with rfl | rfl <;> simp <;> omega
theorem i64_u64 {n : Int} (h : -9223372036854775808 ≤ n ∧ n ≤ 9223372036854775807) : i64B (u64N n) = n := by unfold i64B u64N wrap64; omega
theorem u64_i64 {u : Nat} (h : u < 18446744073709551616) : u64N (i64B u) = u := by unfold i64B u64N wrap64; omega
theorem unbits_bits {f : Nat} (h : f < 18446744073709551616) (hf : isF f = true) : fromF (bitsF f) = some f := by
  have hc := isF_canon hf
  have e : unbits (bitsF f) = f := by
    unfold unbits bitsF
    rw [hc]
    split <;> split <;> omega
  unfold fromF
  rw [e, if_pos hf]
theorem bits_from {u f : Nat} (h : u < 18446744073709551616) (hf : fromF u = some f) : bitsF f = u := by
  unfold fromF at hf
  split at hf
  · rename_i h1
    cases hf
    exact bits_unbits h h1
  · cases hf
end Go.Proofs.Ytbmaeaknlpgdmaa
namespace Go.Proofs.Ytbmaeaknlpgdmaa
open Go.RowKit
set_option linter.unusedVariables false
set_option linter.unusedSimpArgs false
set_option linter.constructorNameAsVariable false
theorem ext_one {k : Nat} {q : ByteArray} (m : Nat) : (strOfNums [(k : Int)] ++ q).extract 0 (m + 1) = strOfNums [(k : Int)] ++ q.extract 0 m := by
  have hs : (strOfNums [(k : Int)]).size = 1 := by rw [strOfNums_size]; rfl
  rw [ByteArray.extract_append, hs]
  congr 1
  rw [show (strOfNums [(k : Int)]).extract 0 (m + 1) = (strOfNums [(k : Int)]).extract 0 (strOfNums [(k : Int)]).size from ?_, ByteArray.extract_zero_size]
  refine ba_ext (by rw [extract_sz, extract_sz, hs]; omega) fun i hi => ?_
  rw [extract_sz, hs] at hi
  rw [at_ext (by rw [hs]; omega), at_ext (by rw [hs]; omega)]
theorem encV_body {k : Nat} {q : ByteArray} {v : Vl} {m : Nat} (h : bodyD k q = some (v, m)) (hk : k < 256) : encV v = strOfNums [(k : Int)] ++ q.extract 0 m := by
  unfold bodyD at h
  split at h
  · rename_i h0
    obtain rfl : k = 0 := by omega
    cases h
    show strOfNums [0] = _
    rw [ByteArray.extract_eq_empty_iff.2 (by omega), ByteArray.append_empty]; rfl
  split at h
  · rename_i h0
    obtain rfl : k = 1 := by omega
    split at h
    · rename_i h1
      cases h
      show strOfNums [1] ++ strOfNums [(byteAt q 0 : Int)] = _
      rw [one_ext h1]; rfl
    · cases h
  split at h
  · rename_i h0
    obtain rfl : k = 2 := by omega
    split at h
    · rename_i h1
      cases h
      show strOfNums [2] ++ eightB (u64N (i64B (numB (q.extract 0 8)))) = _
      rw [u64_i64 (numB_lt _), eight_num (by rw [extract_sz]; omega)]; rfl
    · cases h
  split at h
  · rename_i h0
    obtain rfl : k = 3 := by omega
    split at h
    · rename_i h1
      simp only [Option.map_eq_some_iff] at h
      obtain ⟨f, hf, he⟩ := h
      cases he
      show strOfNums [3] ++ eightB (bitsF f) = _
      rw [bits_from (numB_lt _) hf, eight_num (by rw [extract_sz]; omega)]; rfl
    · cases h
  split at h
  · rename_i h0
    obtain rfl : k = 4 := by omega
    split at h
    · rename_i h1
      cases h
      have hs : (q.extract 2 (2 + numB (q.extract 0 2))).size = numB (q.extract 0 2) := by rw [extract_sz]; omega
      show strOfNums [4] ++ (strOfNums [((q.extract 2 (2 + numB (q.extract 0 2))).size : Int) / 256, ((q.extract 2 (2 + numB (q.extract 0 2))).size : Int) % 256] ++ q.extract 2 (2 + numB (q.extract 0 2))) = _
      rw [hs, two_num (by rw [extract_sz]; omega), ByteArray.extract_append_extract, Nat.min_eq_left (by omega), Nat.max_eq_right (by omega)]; rfl
    · cases h
  · cases h
theorem valD_split {b b' : ByteArray} {v : Vl} (h : valD b = some (v, b')) : b = encV v ++ b' := by
  unfold valD at h
  rw [Option.map_eq_some_iff] at h
  obtain ⟨⟨v', n⟩, h1, h2⟩ := h
  cases h2
  obtain ⟨m, h3, h4, h5, h6⟩ := decV_body h1
  have hn := (decV_good h1).2.2.2
  simp only at h3 h5 hn
  subst h5
  have e1 := encV_body h3 (byteAt_lt b 0)
  have e2 : b = strOfNums [(byteAt b 0 : Int)] ++ b.extract 1 b.size := by rw [← one_ext h6]; exact cut_at h6
  rw [e1, ← ext_one, ← e2]
  exact cut_at hn
/-- A value's number fits. -/
def NumOK (v : Vl) : Prop := v.f < 18446744073709551616 ∧ -9223372036854775808 ≤ v.n ∧ v.n ≤ 9223372036854775807
theorem body_join {v : Vl} (hg : goodV v = true) (hv : NumOK v) (r : ByteArray) :
    ∃ (k : Nat) (q : ByteArray), k < 256 ∧ encV v = strOfNums [(k : Int)] ++ q ∧ bodyD k (q ++ r) = some (v, q.size) := by
  obtain ⟨k, n, f, s⟩ := v
  obtain ⟨hf, hn⟩ := hv
  rcases good_k hg with h | h | h | h | h
  · have h' : k = 0 := h
    subst h'
    have hz : n = 0 ∧ f = 0 ∧ s = ⟨#[]⟩ := by
      unfold goodV bareB at hg
      simp only [Bool.and_eq_true, beq_iff_eq, str_beq_nil, decide_eq_true_eq, if_true, Bool.false_or] at hg
      obtain ⟨⟨h1, h2⟩, h3⟩ := hg
      exact ⟨h1, by omega, h3⟩
    obtain ⟨rfl, rfl, rfl⟩ := hz
    exact ⟨0, ByteArray.empty, by omega, by rw [ByteArray.append_empty]; rfl, rfl⟩
  · have h' : k = 1 := h
    subst h'
    have hz : (n = 0 ∨ n = 1) ∧ f = 0 ∧ s = ⟨#[]⟩ := by
      simp [goodV, bareB, str_beq_nil] at hg
      obtain ⟨⟨h2, h3⟩, h4⟩ := hg
      exact ⟨h4, by omega, h3⟩
    obtain ⟨hn2, rfl, rfl⟩ := hz
    have hs : (strOfNums [n]).size = 1 := by rw [strOfNums_size]; rfl
    refine ⟨1, strOfNums [n], by omega, rfl, ?_⟩
    unfold bodyD
    rw [if_neg (by decide), if_pos (by decide), if_pos (by rw [ByteArray.size_append]; omega), at_left (by omega), at_nums _ 0 (by simp), hs]
    rcases hn2 with rfl | rfl <;> rfl
  · have h' : k = 2 := h
    subst h'
    have hz : f = 0 ∧ s = ⟨#[]⟩ := by
      simp [goodV, bareB, str_beq_nil] at hg
      obtain ⟨h2, h3⟩ := hg
      exact ⟨by omega, h3⟩
    obtain ⟨rfl, rfl⟩ := hz
    refine ⟨2, eightB (u64N n), by omega, rfl, ?_⟩
    unfold bodyD
    rw [if_neg (by decide), if_neg (by decide), if_pos (by decide), if_pos (by rw [ByteArray.size_append, eightB_size]; omega), ByteArray.extract_append_eq_left (by rw [eightB_size]), num_eight (u64N_lt n), i64_u64 hn, eightB_size]
  · have h' : k = 3 := h
    subst h'
    have hz : n = 0 ∧ isF f = true ∧ s = ⟨#[]⟩ := by
      simp [goodV, bareB, str_beq_nil] at hg
      obtain ⟨⟨h2, h3⟩, h4⟩ := hg
      exact ⟨h2, h4, h3⟩
    obtain ⟨rfl, hif, rfl⟩ := hz
    refine ⟨3, eightB (bitsF f), by omega, rfl, ?_⟩
    unfold bodyD
    rw [if_neg (by decide), if_neg (by decide), if_neg (by decide), if_pos (by decide), if_pos (by rw [ByteArray.size_append, eightB_size]; omega), ByteArray.extract_append_eq_left (by rw [eightB_size]), num_eight (bitsF_lt hf), unbits_bits hf hif, eightB_size]
    rfl
  · have h' : k = 4 := h
    subst h'
    have hz : n = 0 ∧ f = 0 ∧ s.size ≤ 256 := by
      simp [goodV, bareB, str_beq_nil] at hg
      obtain ⟨⟨h2, h3⟩, h4⟩ := hg
      exact ⟨h2, by omega, by omega⟩
    obtain ⟨rfl, rfl, hs⟩ := hz
    have h2 : (strOfNums [(s.size : Int) / 256, (s.size : Int) % 256]).size = 2 := by rw [strOfNums_size]; rfl
    refine ⟨4, strOfNums [(s.size : Int) / 256, (s.size : Int) % 256] ++ s, by omega, rfl, ?_⟩
    have e : ((strOfNums [(s.size : Int) / 256, (s.size : Int) % 256] ++ s) ++ r).extract 0 2 = strOfNums [(s.size : Int) / 256, (s.size : Int) % 256] := by
      rw [ByteArray.append_assoc]; exact ByteArray.extract_append_eq_left h2.symm
    unfold bodyD
    rw [if_neg (by decide), if_neg (by decide), if_neg (by decide), if_neg (by decide), if_pos (by decide), e, num_two (by omega), if_pos (by rw [ByteArray.size_append, ByteArray.size_append, h2]; omega)]
    rw [show ((strOfNums [(s.size : Int) / 256, (s.size : Int) % 256] ++ s) ++ r).extract 2 (2 + s.size) = s from ?_, ByteArray.size_append, h2]
    rw [ByteArray.extract_append, ByteArray.extract_append_eq_right h2.symm (by rw [h2])]
    rw [ByteArray.extract_eq_empty_iff.2 (by rw [ByteArray.size_append, h2]; omega), ByteArray.append_empty]
theorem valD_join {v : Vl} (hg : goodV v = true) (hv : NumOK v) (r : ByteArray) : valD (encV v ++ r) = some (v, r) := by
  obtain ⟨k, q, hk, he, hb⟩ := body_join hg hv r
  have hs : (strOfNums [(k : Int)]).size = 1 := by rw [strOfNums_size]; rfl
  have e1 : encV v ++ r = strOfNums [(k : Int)] ++ (q ++ r) := by rw [he, ByteArray.append_assoc]
  have e2 : byteAt (strOfNums [(k : Int)] ++ (q ++ r)) 0 = k := by rw [at_left (by omega), at_nums _ 0 (by simp)]; simp; omega
  have e3 : (strOfNums [(k : Int)] ++ (q ++ r)).extract 1 (strOfNums [(k : Int)] ++ (q ++ r)).size = q ++ r := ByteArray.extract_append_eq_right hs.symm (by rw [ByteArray.size_append])
  unfold valD decV
  rw [e1, if_neg (by rw [ByteArray.size_append]; omega), e2, e3, hb]
  simp only [Option.bind_some, hg, if_true, Option.map_some]
  rw [← ByteArray.append_assoc, ByteArray.extract_append_eq_right (by rw [ByteArray.size_append, hs]; omega) (by rw [ByteArray.size_append])]
end Go.Proofs.Ytbmaeaknlpgdmaa
namespace Go.Proofs.Ytbmaeaknlpgdmaa
open Go.RowKit
set_option linter.unusedVariables false
set_option linter.unusedSimpArgs false
set_option linter.constructorNameAsVariable false
/-- Bytes of a list, one behind the other. -/
abbrev cat {α : Type} (f : α → ByteArray) (s0 : ByteArray) (l : List α) : ByteArray := l.foldl (fun s x => s ++ f x) s0
theorem cat_app {α : Type} (f : α → ByteArray) : ∀ (l : List α) (s0 : ByteArray), cat f s0 l = s0 ++ cat f ByteArray.empty l
  | [], s0 => by show s0 = s0 ++ ByteArray.empty; rw [ByteArray.append_empty]
  | x :: l, s0 => by
    show cat f (s0 ++ f x) l = s0 ++ cat f (ByteArray.empty ++ f x) l
    rw [cat_app f l (s0 ++ f x), cat_app f l (ByteArray.empty ++ f x), ByteArray.empty_append, ByteArray.append_assoc]
theorem cat_snoc {α : Type} (f : α → ByteArray) (l : List α) (x : α) (s0 : ByteArray) : cat f s0 (l ++ [x]) = cat f s0 l ++ f x := by
  show (l ++ [x]).foldl _ s0 = _
  rw [List.foldl_append]; rfl
theorem cat_cons {α : Type} (f : α → ByteArray) (l : List α) (x : α) : cat f ByteArray.empty (x :: l) = f x ++ cat f ByteArray.empty l := by
  show cat f (ByteArray.empty ++ f x) l = _
  rw [cat_app, ByteArray.empty_append]
theorem valsUp_split {k : Nat} {b : ByteArray} : ∀ {l : List Vl} {b' : ByteArray}, valsUp k b = some (l, b') → b = cat encV ByteArray.empty l ++ b' ∧ l.length = k := by
  induction k with
  | zero => intro l b' h; cases h; exact ⟨by show b = ByteArray.empty ++ b; rw [ByteArray.empty_append], rfl⟩
  | succ k ih =>
    intro l b' h
    simp only [valsUp, Option.bind_eq_some_iff, Option.map_eq_some_iff] at h
    obtain ⟨⟨l1, b1⟩, h1, ⟨v, b2⟩, h2, he⟩ := h
    cases he
    obtain ⟨e1, e2⟩ := ih h1
    have e3 := valD_split h2
    simp only at e3
    exact ⟨by rw [cat_snoc, ByteArray.append_assoc, ← e3]; exact e1, by rw [List.length_append, e2]; rfl⟩
theorem valsUp_join {k : Nat} : ∀ {l : List Vl} (r : ByteArray), l.length = k → (∀ v ∈ l, goodV v = true ∧ NumOK v) → valsUp k (cat encV ByteArray.empty l ++ r) = some (l, r) := by
  induction k with
  | zero =>
    intro l r hl _
    obtain rfl := List.eq_nil_of_length_eq_zero hl
    show some ([], ByteArray.empty ++ r) = _
    rw [ByteArray.empty_append]
  | succ k ih =>
    intro l r hl hv
    have hne : l ≠ [] := by intro h; rw [h] at hl; simp at hl
    obtain ⟨l1, v, rfl⟩ : ∃ l1 v, l = l1 ++ [v] := ⟨l.dropLast, l.getLast hne, (List.dropLast_concat_getLast hne).symm⟩
    rw [cat_snoc, ByteArray.append_assoc]
    have h1 := ih (l := l1) (encV v ++ r) (by rw [List.length_append] at hl; simp at hl; omega) (fun u hu => hv u (List.mem_append_left _ hu))
    have h2 := hv v (by simp)
    simp only [valsUp, h1, Option.bind_some, valD_join h2.1 h2.2 r, Option.map_some]
theorem rowD_split {b b' : ByteArray} {l : List Vl} (h : rowD b = some (l, b')) : b = encRow l ++ b' := by
  simp only [rowD, Option.bind_eq_some_iff] at h
  obtain ⟨⟨k, c⟩, h1, h2⟩ := h
  obtain ⟨e1, hk⟩ := numD_split h1
  split at h2
  · obtain ⟨e2, e3⟩ := valsUp_split h2
    simp only at e2 e3
    rw [e1, e2, ← e3]
    show _ = cat encV (strOfNums [(l.length : Int)]) l ++ b'
    rw [cat_app encV l (strOfNums [(l.length : Int)]), ByteArray.append_assoc]
  · cases h2
theorem rowD_join {l : List Vl} (hl : l.length ≤ 6) (hv : ∀ v ∈ l, goodV v = true ∧ NumOK v) (r : ByteArray) : rowD (encRow l ++ r) = some (l, r) := by
  show rowD (cat encV (strOfNums [(l.length : Int)]) l ++ r) = _
  unfold rowD
  rw [cat_app, ByteArray.append_assoc, numD_join (by omega)]
  show (if l.length ≤ 6 then _ else _) = _
  rw [if_pos hl]
  exact valsUp_join r rfl hv
theorem colD_split {b b' : ByteArray} {c : Cl} (h : colD b = some (c, b')) : b = colE c ++ b' := by
  simp only [colD, Option.bind_eq_some_iff, Option.map_eq_some_iff] at h
  obtain ⟨⟨n, b1⟩, h1, ⟨k, b2⟩, h2, ⟨f, b3⟩, h3, ⟨v, b4⟩, h4, he⟩ := h
  cases he
  have e1 := nameD_split h1
  obtain ⟨e2, _⟩ := numD_split h2
  have e3 := flagD_split h3
  have e4 := valD_split h4
  simp only at e1 e2 e3 e4
  rw [e1, e2, e3, e4]
  show _ = ((nameE n ++ strOfNums [(k : Int)]) ++ flagE f) ++ encV v ++ b4
  simp only [ByteArray.append_assoc]
theorem colD_join {c : Cl} (hn : c.name.size < 256) (hk : 0 ≤ c.kind ∧ c.kind < 256) (hg : goodV c.d = true) (hv : NumOK c.d) (r : ByteArray) : colD (colE c ++ r) = some (c, r) := by
  obtain ⟨n, k, f, d⟩ := c
  have e : ((k.toNat : Nat) : Int) = k := by have := hk.1; simp only at this; omega
  show colD (((nameE n ++ strOfNums [k]) ++ flagE f) ++ encV d ++ r) = _
  simp only [ByteArray.append_assoc]
  unfold colD
  rw [nameD_join hn]
  simp only [Option.bind_some]
  rw [← e, numD_join (by have := hk.2; simp only at this; omega)]
  simp only [Option.bind_some]
  rw [flagD_join]
  simp only [Option.bind_some]
  rw [valD_join hg hv]
  rfl
theorem colsUp_split {k : Nat} {b : ByteArray} : ∀ {l : List Cl} {b' : ByteArray}, colsUp k b = some (l, b') → b = cat colE ByteArray.empty l ++ b' ∧ l.length = k := by
  induction k with
  | zero => intro l b' h; cases h; exact ⟨by show b = ByteArray.empty ++ b; rw [ByteArray.empty_append], rfl⟩
  | succ k ih =>
    intro l b' h
    simp only [colsUp, Option.bind_eq_some_iff, Option.map_eq_some_iff] at h
    obtain ⟨⟨l1, b1⟩, h1, ⟨v, b2⟩, h2, he⟩ := h
    cases he
    obtain ⟨e1, e2⟩ := ih h1
    have e3 := colD_split h2
    simp only at e3
    exact ⟨by rw [cat_snoc, ByteArray.append_assoc, ← e3]; exact e1, by rw [List.length_append, e2]; rfl⟩
theorem colsUp_join {k : Nat} : ∀ {l : List Cl} (r : ByteArray), l.length = k → (∀ c ∈ l, c.name.size < 256 ∧ (0 ≤ c.kind ∧ c.kind < 256) ∧ goodV c.d = true ∧ NumOK c.d) → colsUp k (cat colE ByteArray.empty l ++ r) = some (l, r) := by
  induction k with
  | zero =>
    intro l r hl _
    obtain rfl := List.eq_nil_of_length_eq_zero hl
    show some ([], ByteArray.empty ++ r) = _
    rw [ByteArray.empty_append]
  | succ k ih =>
    intro l r hl hv
    have hne : l ≠ [] := by intro h; rw [h] at hl; simp at hl
    obtain ⟨l1, v, rfl⟩ : ∃ l1 v, l = l1 ++ [v] := ⟨l.dropLast, l.getLast hne, (List.dropLast_concat_getLast hne).symm⟩
    rw [cat_snoc, ByteArray.append_assoc]
    have h1 := ih (l := l1) (colE v ++ r) (by rw [List.length_append] at hl; simp at hl; omega) (fun u hu => hv u (List.mem_append_left _ hu))
    have h2 := hv v (by simp)
    simp only [colsUp, h1, Option.bind_some, colD_join h2.1 h2.2.1 h2.2.2.1 h2.2.2.2 r, Option.map_some]
theorem colsD_split {b b' : ByteArray} {l : List Cl} (h : colsD b = some (l, b')) : b = colsE l ++ b' := by
  simp only [colsD, Option.bind_eq_some_iff] at h
  obtain ⟨⟨k, c⟩, h1, h2⟩ := h
  obtain ⟨e1, hk⟩ := numD_split h1
  split at h2
  · obtain ⟨e2, e3⟩ := colsUp_split h2
    simp only at e2 e3
    rw [e1, e2, ← e3]
    show _ = cat colE (strOfNums [(l.length : Int)]) l ++ b'
    rw [cat_app colE l (strOfNums [(l.length : Int)]), ByteArray.append_assoc]
  · cases h2
theorem colsD_join {l : List Cl} (hl : l.length ≤ 6) (hv : ∀ c ∈ l, c.name.size < 256 ∧ (0 ≤ c.kind ∧ c.kind < 256) ∧ goodV c.d = true ∧ NumOK c.d) (r : ByteArray) : colsD (colsE l ++ r) = some (l, r) := by
  show colsD (cat colE (strOfNums [(l.length : Int)]) l ++ r) = _
  unfold colsD
  rw [cat_app, ByteArray.append_assoc, numD_join (by omega)]
  show (if l.length ≤ 6 then _ else _) = _
  rw [if_pos hl]
  exact colsUp_join r rfl hv
end Go.Proofs.Ytbmaeaknlpgdmaa
namespace Go.Proofs.Ytbmaeaknlpgdmaa
open Go.RowKit
set_option linter.unusedVariables false
set_option linter.unusedSimpArgs false
set_option linter.constructorNameAsVariable false
/-- Two fields that are not one. -/
def apartF (x y : Fld) : Bool := decide (x ≠ y) && !(decide (x = .d) && decide (y = .o)) && !(decide (x = .o) && decide (y = .d))
theorem putE_apart {s n : St} {x y : Fld} (h : apartF x y = true) : putE (setF s n y) x = putE n x := by
  cases x <;> cases y <;> first | rfl | (exact absurd h (by decide))
theorem decF_split {s s' : St} {b b' : ByteArray} {x : Fld} (h : decF s b x = some (s', b')) : b = putE s' x ++ b' ∧ s' = setF s' s x := by
  cases x with
  | t => simp only [decF, Option.map_eq_some_iff] at h; obtain ⟨⟨y, c⟩, h1, he⟩ := h; cases he; exact ⟨nameD_split h1, rfl⟩
  | n => simp only [decF, Option.map_eq_some_iff] at h; obtain ⟨⟨y, c⟩, h1, he⟩ := h; cases he; exact ⟨nameD_split h1, rfl⟩
  | c => simp only [decF, Option.map_eq_some_iff] at h; obtain ⟨⟨y, c⟩, h1, he⟩ := h; cases he; exact ⟨nameD_split h1, rfl⟩
  | s => simp only [decF, Option.map_eq_some_iff] at h; obtain ⟨⟨y, c⟩, h1, he⟩ := h; cases he; exact ⟨nameD_split h1, rfl⟩
  | v => simp only [decF, Option.map_eq_some_iff] at h; obtain ⟨⟨y, c⟩, h1, he⟩ := h; cases he; exact ⟨valD_split h1, rfl⟩
  | w => simp only [decF, Option.map_eq_some_iff] at h; obtain ⟨⟨y, c⟩, h1, he⟩ := h; cases he; exact ⟨valD_split h1, rfl⟩
  | r => simp only [decF, Option.map_eq_some_iff] at h; obtain ⟨⟨y, c⟩, h1, he⟩ := h; cases he; exact ⟨rowD_split h1, rfl⟩
  | d => simp only [decF, Option.map_eq_some_iff] at h; obtain ⟨⟨y, c⟩, h1, he⟩ := h; cases he; exact ⟨colsD_split h1, rfl⟩
  | o => simp only [decF, Option.map_eq_some_iff] at h; obtain ⟨⟨y, c⟩, h1, he⟩ := h; cases he; exact ⟨colsD_split h1, rfl⟩
  | f => simp only [decF, Option.map_eq_some_iff] at h; obtain ⟨⟨y, c⟩, h1, he⟩ := h; cases he; exact ⟨flagD_split h1, rfl⟩
theorem decTo_stop (l : List Fld) : l.foldl (fun r x => r.bind fun y => decF y.1 y.2 x) (none : Option (St × ByteArray)) = none := by
  induction l with
  | nil => rfl
  | cons x l ih => exact ih
theorem decTo_cons {s : St} {b : ByteArray} {x : Fld} {l : List Fld} : decTo s b (x :: l) = (decF s b x).bind fun y => decTo y.1 y.2 l := by
  show l.foldl _ (decF s b x) = _
  cases h : decF s b x with
  | none => exact decTo_stop l
  | some y => rfl
theorem setF_k (s n : St) (x : Fld) : (setF s n x).k = n.k := by cases x <;> rfl
theorem decTo_keep {x : Fld} : ∀ {l : List Fld} {s s' : St} {b b' : ByteArray}, decTo s b l = some (s', b') → (∀ y ∈ l, apartF x y = true) → putE s' x = putE s x
  | [], s, s', b, b', h, _ => by cases h; rfl
  | y :: l, s, s', b, b', h, hy => by
    rw [decTo_cons, Option.bind_eq_some_iff] at h
    obtain ⟨⟨s1, b1⟩, h1, h2⟩ := h
    rw [decTo_keep h2 (fun z hz => hy z (List.mem_cons_of_mem _ hz)), (decF_split h1).2]
    exact putE_apart (hy y (List.mem_cons_self ..))
theorem decTo_k : ∀ {l : List Fld} {s s' : St} {b b' : ByteArray}, decTo s b l = some (s', b') → s'.k = s.k
  | [], s, s', b, b', h => by cases h; rfl
  | y :: l, s, s', b, b', h => by
    rw [decTo_cons, Option.bind_eq_some_iff] at h
    obtain ⟨⟨s1, b1⟩, h1, h2⟩ := h
    rw [decTo_k h2, (decF_split h1).2]
    exact setF_k _ _ _
theorem decTo_split : ∀ {l : List Fld} {s s' : St} {b b' : ByteArray}, decTo s b l = some (s', b') → l.Pairwise (fun x y => apartF x y = true) → b = cat (putE s') ByteArray.empty l ++ b'
  | [], s, s', b, b', h, _ => by cases h; show b = ByteArray.empty ++ b; rw [ByteArray.empty_append]
  | x :: l, s, s', b, b', h, hp => by
    rw [decTo_cons, Option.bind_eq_some_iff] at h
    obtain ⟨⟨s1, b1⟩, h1, h2⟩ := h
    obtain ⟨hx, hl⟩ := List.pairwise_cons.1 hp
    have e1 := (decF_split h1).1
    have e2 := decTo_split h2 hl
    have e3 := decTo_keep h2 hx
    simp only at e1 e2 e3
    rw [cat_cons, e3, ByteArray.append_assoc, ← e2]
    exact e1
theorem fields_apart (k : Int) : (fieldsF k).Pairwise (fun x y => apartF x y = true) := by
  by_cases h : 1 ≤ k ∧ k ≤ 17
  · rcases kinds17 h with rfl | rfl | rfl | rfl | rfl | rfl | rfl | rfl | rfl | rfl | rfl | rfl | rfl | rfl | rfl | rfl | rfl <;> decide
  · rw [fieldsF_no h]; exact List.Pairwise.nil
theorem decS_parts {b : ByteArray} {s : St} (h : decS b = some s) : ∃ (k : Nat) (c b' : ByteArray), numD b = some (k, c) ∧ kindOK k = true ∧ decTo (zeroSt k) c (fieldsF k) = some (s, b') ∧ b'.size = 0 ∧ goodS s = true := by
  unfold decS at h
  rw [Option.bind_eq_some_iff] at h
  obtain ⟨⟨k, c⟩, h1, h2⟩ := h
  split at h2
  · rename_i hk
    rw [Option.bind_eq_some_iff] at h2
    obtain ⟨⟨s1, b'⟩, h3, h4⟩ := h2
    split at h4
    · rename_i h5
      cases h4
      exact ⟨k, c, b', h1, hk, h3, h5.1, h5.2⟩
    · cases h4
  · cases h2
theorem size0 {b : ByteArray} (h : b.size = 0) : b = ByteArray.empty := by
  apply ByteArray.ext; apply Array.eq_empty_of_size_eq_zero; exact h
/-- What was decoded is encoded as it stood. -/
theorem decS_back {b : ByteArray} {s : St} (h : decS b = some s) : encS s = b ∧ goodS s = true := by
  obtain ⟨k, c, b', h1, hk, h3, h4, h5⟩ := decS_parts h
  refine ⟨?_, h5⟩
  have e1 := (numD_split h1).1
  have e2 := decTo_split h3 (fields_apart _)
  have e3 := decTo_k h3
  have e4 : s.k = (k : Int) := e3
  rw [size0 h4, ByteArray.append_empty] at e2
  show cat (putE s) (strOfNums [s.k]) (fieldsF s.k) = b
  rw [cat_app, e4, e1, e2]
/-- A statement whose numbers fit. -/
def NumS (s : St) : Prop := NumOK s.v ∧ NumOK s.w ∧ (∀ v ∈ s.row, NumOK v) ∧ ∀ c ∈ s.cols, NumOK c.d
theorem cols_ok {l : List Cl} (h : goodCs l = true) : l.length ≤ 6 ∧ ∀ c ∈ l, c.name.size < 256 ∧ (0 ≤ c.kind ∧ c.kind < 256) ∧ goodV c.d = true := by
  unfold goodCs at h
  rw [decide_eq_true_eq] at h
  obtain ⟨_, h2, h3⟩ := h
  refine ⟨h2, fun c hc => ?_⟩
  obtain ⟨i, hi, rfl⟩ := List.getElem_of_mem hc
  have h4 := (h3 i hi _ (List.getElem?_eq_getElem hi)).1
  unfold oneC at h4
  simp only [Bool.and_eq_true, decide_eq_true_eq] at h4
  have h5 := nameB_size h4.1.1.1.1
  exact ⟨by omega, ⟨by omega, by omega⟩, h4.1.2⟩
theorem decF_join {s n : St} {x : Fld} (hg : goodF s x = true) (hn : NumS s) (r : ByteArray) : decF n (putE s x ++ r) x = some (setF s n x, r) := by
  have hname : ∀ {a : ByteArray}, nameB a = true → nameD (nameE a ++ r) = some (a, r) := fun h => nameD_join (by have := nameB_size h; omega) r
  cases x with
  | t => show (nameD (nameE s.t ++ r)).map _ = _; rw [hname hg]; rfl
  | n => show (nameD (nameE s.nm ++ r)).map _ = _; rw [hname hg]; rfl
  | c => show (nameD (nameE s.c ++ r)).map _ = _; rw [hname hg]; rfl
  | s => show (nameD (nameE s.se ++ r)).map _ = _; rw [hname hg]; rfl
  | v => show (valD (encV s.v ++ r)).map _ = _; rw [valD_join hg hn.1]; rfl
  | w => show (valD (encV s.w ++ r)).map _ = _; rw [valD_join hg hn.2.1]; rfl
  | r =>
    have h1 : decide (s.row.length ≤ 6) = true ∧ s.row.all goodV = true := by rw [← Bool.and_eq_true]; exact hg
    show (rowD (encRow s.row ++ r)).map _ = _
    rw [rowD_join (of_decide_eq_true h1.1) (fun v hv => ⟨List.all_eq_true.1 h1.2 v hv, hn.2.2.1 v hv⟩)]; rfl
  | d =>
    obtain ⟨h1, h2⟩ := cols_ok hg
    show (colsD (colsE s.cols ++ r)).map _ = _
    rw [colsD_join h1 (fun c hc => ⟨(h2 c hc).1, (h2 c hc).2.1, (h2 c hc).2.2, hn.2.2.2 c hc⟩)]; rfl
  | o =>
    have h0 : decide (s.cols.length = 1) = true ∧ goodCs s.cols = true := by rw [← Bool.and_eq_true]; exact hg
    obtain ⟨h1, h2⟩ := cols_ok h0.2
    show (colsD (colsE s.cols ++ r)).map _ = _
    rw [colsD_join h1 (fun c hc => ⟨(h2 c hc).1, (h2 c hc).2.1, (h2 c hc).2.2, hn.2.2.2 c hc⟩)]; rfl
  | f => show (flagD (flagE s.fl ++ r)).map _ = _; rw [flagD_join]; rfl
theorem decTo_join {s : St} (hn : NumS s) : ∀ (l : List Fld) (n : St) (r : ByteArray), (∀ x ∈ l, goodF s x = true) → decTo n (cat (putE s) ByteArray.empty l ++ r) l = some (l.foldl (setF s) n, r)
  | [], n, r, _ => by show some (n, ByteArray.empty ++ r) = _; rw [ByteArray.empty_append]; rfl
  | x :: l, n, r, h => by
    rw [cat_cons, ByteArray.append_assoc, decTo_cons, decF_join (h x (List.mem_cons_self ..)) hn]
    simp only [Option.bind_some]
    exact decTo_join hn l _ r (fun y hy => h y (List.mem_cons_of_mem _ hy))
/-- What was encoded is decoded as it was. -/
theorem decS_enc {s : St} (hg : goodS s = true) (hn : NumS s) : decS (encS s) = some s := by
  obtain ⟨hk, hf⟩ := goodS_all hg
  have hs : only s = s := by
    have h1 := hg
    rw [goodS_eq] at h1
    unfold rgoodS at h1
    simp only [Bool.and_eq_true, eqSt_iff, decide_eq_true_eq] at h1
    exact h1.1.2.symm
  have e : ((s.k.toNat : Nat) : Int) = s.k := by omega
  show decS (cat (putE s) (strOfNums [s.k]) (fieldsF s.k)) = _
  rw [cat_app]
  have h2 := decTo_join hn (fieldsF s.k) (zeroSt s.k) ByteArray.empty hf
  rw [ByteArray.append_empty] at h2
  unfold decS
  rw [show strOfNums [s.k] = strOfNums [((s.k.toNat : Nat) : Int)] by rw [e], numD_join (by omega)]
  simp only [Option.bind_some]
  rw [e, if_pos (by unfold kindOK; exact decide_eq_true hk), h2]
  simp only [Option.bind_some]
  have h3 : (fieldsF s.k).foldl (setF s) (zeroSt s.k) = s := hs
  rw [h3, if_pos ⟨rfl, hg⟩]
theorem decF_flt {s s' : St} {b b' : ByteArray} {x : Fld} (h : decF s b x = some (s', b')) (hs : Flt s) : Flt s' := by
  obtain ⟨f1, f2, f3, f4⟩ := hs
  cases x with
  | t => simp only [decF, Option.map_eq_some_iff] at h; obtain ⟨⟨y, c⟩, h1, he⟩ := h; cases he; exact ⟨f1, f2, f3, f4⟩
  | n => simp only [decF, Option.map_eq_some_iff] at h; obtain ⟨⟨y, c⟩, h1, he⟩ := h; cases he; exact ⟨f1, f2, f3, f4⟩
  | c => simp only [decF, Option.map_eq_some_iff] at h; obtain ⟨⟨y, c⟩, h1, he⟩ := h; cases he; exact ⟨f1, f2, f3, f4⟩
  | s => simp only [decF, Option.map_eq_some_iff] at h; obtain ⟨⟨y, c⟩, h1, he⟩ := h; cases he; exact ⟨f1, f2, f3, f4⟩
  | v => simp only [decF, Option.map_eq_some_iff] at h; obtain ⟨⟨y, c⟩, h1, he⟩ := h; cases he; exact ⟨(valD_flt h1).1, f2, f3, f4⟩
  | w => simp only [decF, Option.map_eq_some_iff] at h; obtain ⟨⟨y, c⟩, h1, he⟩ := h; cases he; exact ⟨f1, (valD_flt h1).1, f3, f4⟩
  | r =>
    simp only [decF, Option.map_eq_some_iff] at h; obtain ⟨⟨y, c⟩, h1, he⟩ := h; cases he
    refine ⟨f1, f2, ?_, f4⟩
    simp only [rowD, Option.bind_eq_some_iff] at h1
    obtain ⟨⟨k, d⟩, _, h2⟩ := h1
    split at h2
    · exact fun v hv => ((valsUp_ok h2).2 v hv).1
    · cases h2
  | d =>
    simp only [decF, Option.map_eq_some_iff] at h; obtain ⟨⟨y, c⟩, h1, he⟩ := h; cases he
    refine ⟨f1, f2, f3, ?_⟩
    simp only [colsD, Option.bind_eq_some_iff] at h1
    obtain ⟨⟨k, d⟩, _, h2⟩ := h1
    split at h2
    · exact (colsUp_ok h2).2
    · cases h2
  | o =>
    simp only [decF, Option.map_eq_some_iff] at h; obtain ⟨⟨y, c⟩, h1, he⟩ := h; cases he
    refine ⟨f1, f2, f3, ?_⟩
    simp only [colsD, Option.bind_eq_some_iff] at h1
    obtain ⟨⟨k, d⟩, _, h2⟩ := h1
    split at h2
    · exact (colsUp_ok h2).2
    · cases h2
  | f => simp only [decF, Option.map_eq_some_iff] at h; obtain ⟨⟨y, c⟩, h1, he⟩ := h; cases he; exact ⟨f1, f2, f3, f4⟩
theorem decTo_flt : ∀ {l : List Fld} {s s' : St} {b b' : ByteArray}, decTo s b l = some (s', b') → Flt s → Flt s'
  | [], s, s', b, b', h, hs => by cases h; exact hs
  | y :: l, s, s', b, b', h, hs => by
    rw [decTo_cons, Option.bind_eq_some_iff] at h
    obtain ⟨⟨s1, b1⟩, h1, h2⟩ := h
    exact decTo_flt h2 (decF_flt h1 hs)
theorem zeroSt_flt (k : Int) : Flt (zeroSt k) := by
  refine ⟨?_, ?_, fun v hv => ?_, fun v hv => ?_⟩
  · show (0 : Nat) < 18446744073709551616; decide
  · show (0 : Nat) < 18446744073709551616; decide
  · cases hv
  · cases hv
theorem decS_flt {b : ByteArray} {s : St} (h : decS b = some s) : Flt s := by
  obtain ⟨k, c, b', h1, hk, h3, h4, h5⟩ := decS_parts h
  exact decTo_flt h3 (zeroSt_flt _)
theorem encS_size {s : St} (hf : Flt s) (hg : goodS s = true) : (encS s).size ≤ 10000 := by
  have h1 := encTo_size hf (goodS_all hg).2 (strOfNums [s.k])
  have h2 := fieldsF_len s.k
  have h3 : (strOfNums [s.k]).size = 1 := by rw [strOfNums_size]; rfl
  show (encTo s (strOfNums [s.k]) (fieldsF s.k)).size ≤ 10000
  omega
end Go.Proofs.Ytbmaeaknlpgdmaa
