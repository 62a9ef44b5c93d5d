/- The reference's Decode: the value that stands at a place of bytes. -/
import Derived.Test.YtbmaeaknlpgdmaaA27
import Derived.Test.YtbmaeaknlpgdmaaA17
import Derived.Test.YtbmaeaknlpgdmaaA03
import Derived.Test.YtbmaeaknlpgdmaaA02
namespace Go.Proofs.Ytbmaeaknlpgdmaa
open Go.RowKit
set_option linter.unusedVariables false
set_option linter.unusedSimpArgs false
set_option linter.constructorNameAsVariable false
def RdPost (D : Option (Vl × Nat)) (w : World) (e : Ending) (w' : World) : Prop :=
  ∃ (v : Vl) (n : Nat), e = .returned (.agg #[.int .i64 v.k, .int .i64 v.n, .float .f64 v.f, .string v.s, .int .i64 n]) ∧ Below w.heap.size w w' ∧ (D = some (v, n) ∨ (D = none ∧ n = 0))
theorem arr5 {L : Array Value} (h : L.size = 5) : ∃ a b c d e, L = #[a, b, c, d, e] := by
  obtain ⟨l⟩ := L
  match l, h with
  | [a, b, c, d, e], _ => exact ⟨a, b, c, d, e, rfl⟩
theorem blk_set5 {w : World} {b : Nat} {L : Array Value} {T : TypeId} (hs : L.size = 5) (h : w.heap[b]? = some (.cells L T (0, 0))) (u0 u1 u2 u3 u4 : Value) :
    (((((w.setCell ⟨b, 0, none⟩ u0).setCell ⟨b, 1, none⟩ u1).setCell ⟨b, 2, none⟩ u2).setCell ⟨b, 3, none⟩ u3).setCell ⟨b, 4, none⟩ u4).heap[b]? = some (.cells #[u0, u1, u2, u3, u4] T (0, 0)) := by
  obtain ⟨c0, c1, c2, c3, c4, rfl⟩ := arr5 hs
  exact blk_set_eq (blk_set_eq (blk_set_eq (blk_set_eq (blk_set_eq h 0 u0 rfl) 1 u1 rfl) 2 u2 rfl) 3 u3 rfl) 4 u4 rfl
theorem bl_set5 {a w : World} (h : Below a.heap.size a w) {b : Nat} (hb : a.heap.size ≤ b) (u0 u1 u2 u3 u4 : Value) :
    Below a.heap.size a (((((w.setCell ⟨b, 0, none⟩ u0).setCell ⟨b, 1, none⟩ u1).setCell ⟨b, 2, none⟩ u2).setCell ⟨b, 3, none⟩ u3).setCell ⟨b, 4, none⟩ u4) := bl_set (bl_set (bl_set (bl_set (bl_set h hb _) hb _) hb _) hb _) hb _
theorem decV_at {s : ByteArray} {p : Nat} (h : p < s.size) : decV (s.extract p s.size) = (bodyD (byteAt s p) (s.extract (p + 1) s.size)).bind fun x => if goodV x.1 then some (x.1, x.2 + 1) else none := by
  have e1 : (s.extract p s.size).size = s.size - p := by rw [extract_sz]; omega
  have e2 : byteAt (s.extract p s.size) 0 = byteAt s p := by
    have h1 : 0 < (s.extract p s.size).size := by omega
    rw [byteAt_ h1, byteAt_ h, ByteArray.getElem_extract]; rfl
  have e3 : (s.extract p s.size).extract 1 (s.extract p s.size).size = s.extract (p + 1) s.size := by
    rw [e1, ByteArray.extract_extract]
    congr 1
    omega
  unfold decV
  rw [if_neg (by omega), e2, e3]
theorem left_sz {s : ByteArray} {p : Nat} (h : p < s.size) : (s.extract (p + 1) s.size).size = s.size - p - 1 := by rw [extract_sz]; omega
theorem sub_ext {s : ByteArray} {p a b : Nat} (h : p + 1 + b ≤ s.size) : (s.extract (p + 1) s.size).extract a b = s.extract (p + 1 + a) (p + 1 + b) := by
  rw [ByteArray.extract_extract]
  congr 1
  omega
set_option maxRecDepth 100000 in
set_option maxHeartbeats 4000000 in
theorem rdec_x (s : ByteArray) (p : Nat) (w : World) (hp : p < s.size) (hz : s.size ≤ 100000) (c : UInt8) (hc : s[p] = c) (hk : 5 ≤ c.toNat) :
    Calls Try.prog 83 #[.string s, .int .i64 p] w (RdPost (decV (s.extract p s.size)) w) := by
  have hix := ix_str s p hp c hc
  have hb : byteAt s p = c.toNat := by rw [byteAt_ hp, hc]
  have EV := Lib.hid (show decV (s.extract p s.size) = none by
    rw [decV_at hp, hb]
    unfold bodyD
    rw [if_neg (by omega), if_neg (by omega), if_neg (by omega), if_neg (by omega), if_neg (by omega)]; rfl)
  have hcl := UInt8.toNat_lt c
  obtain ⟨k, ek⟩ : ∃ k, c.toNat = k := ⟨_, rfl⟩
  rw [ek] at hk hix hcl
  clear hb ek hc
  have HG := Lib.hid (show goodV ⟨(k : Int), 0, 0, ⟨#[]⟩⟩ = false by
    unfold goodV
    rw [if_neg (by show ¬ ((k : Int) = 0); omega), if_neg (by show ¬ ((k : Int) = 1); omega), if_neg (by show ¬ ((k : Int) = 2); omega), if_neg (by show ¬ ((k : Int) = 3); omega), if_neg (by show ¬ ((k : Int) = 4); omega)])
  have hp0 : (p : Int) < (s.size : Int) := by omega
  go_enter Try.func83, Try.ntmps83
  go_wp2_with fail
  have P0 := blk_old (blk_new w (.cells #[.int .i64 0, .int .i64 0, .float .f64 0, .string ⟨#[]⟩, .int .i64 0] 94)) (.cells #[.int .i64 (k : Int), .int .i64 0, .float .f64 0, .string ⟨#[]⟩] 24)
  have P1 := blk_new (w.alloc (.cells #[.int .i64 0, .int .i64 0, .float .f64 0, .string ⟨#[]⟩, .int .i64 0] 94)) (.cells #[.int .i64 (k : Int), .int .i64 0, .float .f64 0, .string ⟨#[]⟩] 24)
  rw [szal] at P1
  have PB : Below w.heap.size w ((w.alloc (.cells #[.int .i64 0, .int .i64 0, .float .f64 0, .string ⟨#[]⟩, .int .i64 0] 94)).alloc (.cells #[.int .i64 (k : Int), .int .i64 0, .float .f64 0, .string ⟨#[]⟩] 24)) := by (repeat (first | assumption | exact Below.refl _ _ | refine bl_drewN ?_ _ | refine bl_drew ?_ | refine bl_alloc ?_ _ | refine bl_step ?_ (by assumption)))
  generalize ((w.alloc (.cells #[.int .i64 0, .int .i64 0, .float .f64 0, .string ⟨#[]⟩, .int .i64 0] 94)).alloc (.cells #[.int .i64 (k : Int), .int .i64 0, .float .f64 0, .string ⟨#[]⟩] 24)) = W0 at P0 P1 PB ⊢
  refine (rgood_any ⟨(k : Int), 0, 0, ⟨#[]⟩⟩ _).mono ?_
  rintro e w1 ⟨rfl, hb⟩
  have B0 := Lib.hid (blk_below P0 hb)
  have B1 := Lib.hid (blk_below P1 hb)
  have BB := Lib.hid (bl_step PB hb)
  obtain ⟨k0, f0⟩ := blk_rules B0.out
  obtain ⟨k1, f1⟩ := blk_rules B1.out
  have hz1 := blk_lt B1.out
  clear P0 P1 PB hb 
  rw [HG.out]
  have N := Lib.hid (show decV (s.extract p s.size) = none by exact EV.out)
  go_wp2
  exact bodyPost_ret (results_blk (T := 94) (b := w.heap.size) rfl (fun _ => by kernel_rfl) (fun _ => by kernel_rfl) _ rfl (blk_set5 rfl B0.out _ _ _ _ _)) rfl ⟨nov, 0, rfl, bl_set5 BB.out (Nat.le_refl _) _ _ _ _ _, .inr ⟨N.out, rfl⟩⟩
set_option maxRecDepth 100000 in
set_option maxHeartbeats 4000000 in
theorem rdec_0 (s : ByteArray) (p : Nat) (w : World) (hp : p < s.size) (hz : s.size ≤ 100000) (hc : s[p] = 0) :
    Calls Try.prog 83 #[.string s, .int .i64 p] w (RdPost (decV (s.extract p s.size)) w) := by
  have hix := ix_str s p hp 0 hc
  have hb : byteAt s p = 0 := by rw [byteAt_ hp, hc]; rfl
  have hls := left_sz hp
  have hp0 : (p : Int) < (s.size : Int) := by omega
  have EV := Lib.hid (show decV (s.extract p s.size) = if goodV ⟨0, 0, 0, ⟨#[]⟩⟩ then some (⟨0, 0, 0, ⟨#[]⟩⟩, 0 + 1) else none by rw [decV_at hp, hb]; unfold bodyD; rw [if_pos (by decide)]; rfl)
  clear hb hc hls
  go_enter Try.func83, Try.ntmps83
  go_wp2_with fail
  have P0 := blk_old (blk_new w (.cells #[.int .i64 0, .int .i64 0, .float .f64 0, .string ⟨#[]⟩, .int .i64 0] 94)) (.cells #[.int .i64 0, .int .i64 0, .float .f64 0, .string ⟨#[]⟩] 24)
  have P1 := blk_new (w.alloc (.cells #[.int .i64 0, .int .i64 0, .float .f64 0, .string ⟨#[]⟩, .int .i64 0] 94)) (.cells #[.int .i64 0, .int .i64 0, .float .f64 0, .string ⟨#[]⟩] 24)
  rw [szal] at P1
  have PB : Below w.heap.size w ((w.alloc (.cells #[.int .i64 0, .int .i64 0, .float .f64 0, .string ⟨#[]⟩, .int .i64 0] 94)).alloc (.cells #[.int .i64 0, .int .i64 0, .float .f64 0, .string ⟨#[]⟩] 24)) := by (repeat (first | assumption | exact Below.refl _ _ | refine bl_drewN ?_ _ | refine bl_drew ?_ | refine bl_alloc ?_ _ | refine bl_step ?_ (by assumption)))
  generalize ((w.alloc (.cells #[.int .i64 0, .int .i64 0, .float .f64 0, .string ⟨#[]⟩, .int .i64 0] 94)).alloc (.cells #[.int .i64 0, .int .i64 0, .float .f64 0, .string ⟨#[]⟩] 24)) = W0 at P0 P1 PB ⊢
  refine (rgood_any ⟨0, 0, 0, ⟨#[]⟩⟩ _).mono ?_
  rintro e w1 ⟨rfl, hb⟩
  have B0 := Lib.hid (blk_below P0 hb)
  have B1 := Lib.hid (blk_below P1 hb)
  have BB := Lib.hid (bl_step PB hb)
  obtain ⟨k0, f0⟩ := blk_rules B0.out
  obtain ⟨k1, f1⟩ := blk_rules B1.out
  have hz1 := blk_lt B1.out
  clear P0 P1 PB hb 
  cases hg : goodV ⟨0, 0, 0, ⟨#[]⟩⟩ with
  | false =>
    have HG := Lib.hid hg
    clear hg
    have N := Lib.hid (show decV (s.extract p s.size) = none by rw [EV.out, HG.out]; rfl)
    go_wp2
    exact bodyPost_ret (results_blk (T := 94) (b := w.heap.size) rfl (fun _ => by kernel_rfl) (fun _ => by kernel_rfl) _ rfl (blk_set5 rfl B0.out _ _ _ _ _)) rfl ⟨nov, 0, rfl, bl_set5 BB.out (Nat.le_refl _) _ _ _ _ _, .inr ⟨N.out, rfl⟩⟩
  | true =>
    have HG := Lib.hid hg
    clear hg
    have N := Lib.hid (show decV (s.extract p s.size) = some (⟨0, 0, 0, ⟨#[]⟩⟩, 0 + 1) by rw [EV.out, HG.out]; rfl)
    go_wp2
    exact bodyPost_ret (results_blk (T := 94) (b := w.heap.size) rfl (fun _ => by kernel_rfl) (fun _ => by kernel_rfl) _ rfl (blk_set5 rfl B0.out _ _ _ _ _)) rfl ⟨⟨0, 0, 0, ⟨#[]⟩⟩, 0 + 1, by first | rfl | (congr 3; omega) | (simp; omega), bl_set5 BB.out (Nat.le_refl _) _ _ _ _ _, .inl N.out⟩
set_option maxRecDepth 100000 in
set_option maxHeartbeats 4000000 in
theorem rdec_1 (s : ByteArray) (p : Nat) (w : World) (hp : p < s.size) (hz : s.size ≤ 100000) (hc : s[p] = 1) :
    Calls Try.prog 83 #[.string s, .int .i64 p] w (RdPost (decV (s.extract p s.size)) w) := by
  have hix := ix_str s p hp 1 hc
  have hb : byteAt s p = 1 := by rw [byteAt_ hp, hc]; rfl
  have hls := left_sz hp
  have hp0 : (p : Int) < (s.size : Int) := by omega
  by_cases h : 1 ≤ s.size - p - 1
  · have hq : byteAt (s.extract (p + 1) s.size) 0 = byteAt s (p + 1) := by
      have h1 : 0 < (s.extract (p + 1) s.size).size := by omega
      rw [byteAt_ h1, byteAt_ (show p + 1 < s.size by omega), ByteArray.getElem_extract]
      try rfl
    have EV := Lib.hid (show decV (s.extract p s.size) = if goodV ⟨1, (byteAt s (p + 1) : Int), 0, ⟨#[]⟩⟩ then some (⟨1, (byteAt s (p + 1) : Int), 0, ⟨#[]⟩⟩, 1 + 1) else none by rw [decV_at hp, hb]; unfold bodyD; rw [if_neg (by decide), if_pos (by decide), if_pos (by omega), hq]; rfl)
    have hix2 := ix_str s (p + 1) (by omega) _ rfl
    have hby : wrap64 (s[p + 1].toNat : Int) = (byteAt s (p + 1) : Int) := by
      rw [← byteAt_ (show p + 1 < s.size by omega)]
      have := byteAt_lt s (p + 1)
      unfold wrap64; omega
    have hp1 : ((p + 1 : Nat) : Int) = (p : Int) + 1 := by omega
    rw [hp1] at hix2
    have hp2 : (p : Int) + 1 < (s.size : Int) := by omega
    obtain ⟨cc, ecc⟩ : ∃ cc : Nat, s[p + 1].toNat = cc := ⟨_, rfl⟩
    rw [ecc] at hix2 hby
    obtain ⟨n1, en1⟩ : ∃ n1 : Int, (byteAt s (p + 1) : Int) = n1 := ⟨_, rfl⟩
    rw [en1] at hby EV
    clear hb hc hls hq ecc en1 hp1
    go_enter Try.func83, Try.ntmps83
    go_wp2_with fail
    have P0 := blk_old (blk_new w (.cells #[.int .i64 0, .int .i64 0, .float .f64 0, .string ⟨#[]⟩, .int .i64 0] 94)) (.cells #[.int .i64 1, .int .i64 n1, .float .f64 0, .string ⟨#[]⟩] 24)
    have P1 := blk_new (w.alloc (.cells #[.int .i64 0, .int .i64 0, .float .f64 0, .string ⟨#[]⟩, .int .i64 0] 94)) (.cells #[.int .i64 1, .int .i64 n1, .float .f64 0, .string ⟨#[]⟩] 24)
    rw [szal] at P1
    have PB : Below w.heap.size w ((w.alloc (.cells #[.int .i64 0, .int .i64 0, .float .f64 0, .string ⟨#[]⟩, .int .i64 0] 94)).alloc (.cells #[.int .i64 1, .int .i64 n1, .float .f64 0, .string ⟨#[]⟩] 24)) := by (repeat (first | assumption | exact Below.refl _ _ | refine bl_drewN ?_ _ | refine bl_drew ?_ | refine bl_alloc ?_ _ | refine bl_step ?_ (by assumption)))
    generalize ((w.alloc (.cells #[.int .i64 0, .int .i64 0, .float .f64 0, .string ⟨#[]⟩, .int .i64 0] 94)).alloc (.cells #[.int .i64 1, .int .i64 n1, .float .f64 0, .string ⟨#[]⟩] 24)) = W0 at P0 P1 PB ⊢
    refine (rgood_any ⟨1, n1, 0, ⟨#[]⟩⟩ _).mono ?_
    rintro e w1 ⟨rfl, hb⟩
    have B0 := Lib.hid (blk_below P0 hb)
    have B1 := Lib.hid (blk_below P1 hb)
    have BB := Lib.hid (bl_step PB hb)
    obtain ⟨k0, f0⟩ := blk_rules B0.out
    obtain ⟨k1, f1⟩ := blk_rules B1.out
    have hz1 := blk_lt B1.out
    clear P0 P1 PB hb 
    cases hg : goodV ⟨1, n1, 0, ⟨#[]⟩⟩ with
    | false =>
      have HG := Lib.hid hg
      clear hg
      have N := Lib.hid (show decV (s.extract p s.size) = none by rw [EV.out, HG.out]; rfl)
      go_wp2
      exact bodyPost_ret (results_blk (T := 94) (b := w.heap.size) rfl (fun _ => by kernel_rfl) (fun _ => by kernel_rfl) _ rfl (blk_set5 rfl B0.out _ _ _ _ _)) rfl ⟨nov, 0, rfl, bl_set5 BB.out (Nat.le_refl _) _ _ _ _ _, .inr ⟨N.out, rfl⟩⟩
    | true =>
      have HG := Lib.hid hg
      clear hg
      have N := Lib.hid (show decV (s.extract p s.size) = some (⟨1, n1, 0, ⟨#[]⟩⟩, 1 + 1) by rw [EV.out, HG.out]; rfl)
      go_wp2
      exact bodyPost_ret (results_blk (T := 94) (b := w.heap.size) rfl (fun _ => by kernel_rfl) (fun _ => by kernel_rfl) _ rfl (blk_set5 rfl B0.out _ _ _ _ _)) rfl ⟨⟨1, n1, 0, ⟨#[]⟩⟩, 1 + 1, by first | rfl | (congr 3; omega) | (simp; omega), bl_set5 BB.out (Nat.le_refl _) _ _ _ _ _, .inl N.out⟩
  · have N := Lib.hid (show decV (s.extract p s.size) = none by rw [decV_at hp, hb]; unfold bodyD; rw [if_neg (by decide), if_pos (by decide), if_neg (by omega)]; rfl)
    clear hb hc hls
    go_enter Try.func83, Try.ntmps83
    go_wp2
    exact bodyPost_ret (results_blk (T := 94) (b := w.heap.size) rfl (fun _ => by kernel_rfl) (fun _ => by kernel_rfl) _ rfl (blk_old (blk_new w _) _)) rfl ⟨nov, 0, rfl, by (repeat (first | assumption | exact Below.refl _ _ | refine bl_drewN ?_ _ | refine bl_drew ?_ | refine bl_alloc ?_ _ | refine bl_step ?_ (by assumption))), .inr ⟨N.out, rfl⟩⟩
set_option maxRecDepth 100000 in
set_option maxHeartbeats 4000000 in
theorem rdec_2 (s : ByteArray) (p : Nat) (w : World) (hp : p < s.size) (hz : s.size ≤ 100000) (hc : s[p] = 2) :
    Calls Try.prog 83 #[.string s, .int .i64 p] w (RdPost (decV (s.extract p s.size)) w) := by
  have hix := ix_str s p hp 2 hc
  have hb : byteAt s p = 2 := by rw [byteAt_ hp, hc]; rfl
  have hls := left_sz hp
  have hp0 : (p : Int) < (s.size : Int) := by omega
  by_cases h : 8 ≤ s.size - p - 1
  · have hq : (s.extract (p + 1) s.size).extract 0 8 = s.extract (p + 1) (p + 9) := sub_ext (by omega)
    have EV := Lib.hid (show decV (s.extract p s.size) = if goodV ⟨2, wrap64 ((numB (s.extract (p + 1) (p + 9)) : Nat) : Int), 0, ⟨#[]⟩⟩ then some (⟨2, wrap64 ((numB (s.extract (p + 1) (p + 9)) : Nat) : Int), 0, ⟨#[]⟩⟩, 8 + 1) else none by rw [decV_at hp, hb]; unfold bodyD; rw [if_neg (by decide), if_neg (by decide), if_pos (by decide), if_pos (by omega), hq]; rfl)
    have hsn : (s.extract (p + 1) (p + 9)).size ≤ 9223372036854775807 := by rw [extract_sz]; omega
    have hp2 : (p : Int) + 9 ≤ (s.size : Int) := by omega
    clear hb hc hls hq
    go_enter Try.func83, Try.ntmps83
    go_wp2_with fail
    refine (rnumber_any _ _ hsn).mono ?_
    rintro e w9 ⟨rfl, rfl⟩
    go_wp2_with fail
    have P0 := blk_old (blk_new w (.cells #[.int .i64 0, .int .i64 0, .float .f64 0, .string ⟨#[]⟩, .int .i64 0] 94)) (.cells #[.int .i64 2, .int .i64 (wrap64 ((numB (s.extract (p + 1) (p + 9)) : Nat) : Int)), .float .f64 0, .string ⟨#[]⟩] 24)
    have P1 := blk_new (w.alloc (.cells #[.int .i64 0, .int .i64 0, .float .f64 0, .string ⟨#[]⟩, .int .i64 0] 94)) (.cells #[.int .i64 2, .int .i64 (wrap64 ((numB (s.extract (p + 1) (p + 9)) : Nat) : Int)), .float .f64 0, .string ⟨#[]⟩] 24)
    rw [szal] at P1
    have PB : Below w.heap.size w ((w.alloc (.cells #[.int .i64 0, .int .i64 0, .float .f64 0, .string ⟨#[]⟩, .int .i64 0] 94)).alloc (.cells #[.int .i64 2, .int .i64 (wrap64 ((numB (s.extract (p + 1) (p + 9)) : Nat) : Int)), .float .f64 0, .string ⟨#[]⟩] 24)) := by (repeat (first | assumption | exact Below.refl _ _ | refine bl_drewN ?_ _ | refine bl_drew ?_ | refine bl_alloc ?_ _ | refine bl_step ?_ (by assumption)))
    generalize ((w.alloc (.cells #[.int .i64 0, .int .i64 0, .float .f64 0, .string ⟨#[]⟩, .int .i64 0] 94)).alloc (.cells #[.int .i64 2, .int .i64 (wrap64 ((numB (s.extract (p + 1) (p + 9)) : Nat) : Int)), .float .f64 0, .string ⟨#[]⟩] 24)) = W0 at P0 P1 PB ⊢
    refine (rgood_any ⟨2, (wrap64 ((numB (s.extract (p + 1) (p + 9)) : Nat) : Int)), 0, ⟨#[]⟩⟩ _).mono ?_
    rintro e w1 ⟨rfl, hb⟩
    have B0 := Lib.hid (blk_below P0 hb)
    have B1 := Lib.hid (blk_below P1 hb)
    have BB := Lib.hid (bl_step PB hb)
    obtain ⟨k0, f0⟩ := blk_rules B0.out
    obtain ⟨k1, f1⟩ := blk_rules B1.out
    have hz1 := blk_lt B1.out
    clear P0 P1 PB hb 
    cases hg : goodV ⟨2, (wrap64 ((numB (s.extract (p + 1) (p + 9)) : Nat) : Int)), 0, ⟨#[]⟩⟩ with
    | false =>
      have HG := Lib.hid hg
      clear hg
      have N := Lib.hid (show decV (s.extract p s.size) = none by rw [EV.out, HG.out]; rfl)
      go_wp2
      exact bodyPost_ret (results_blk (T := 94) (b := w.heap.size) rfl (fun _ => by kernel_rfl) (fun _ => by kernel_rfl) _ rfl (blk_set5 rfl B0.out _ _ _ _ _)) rfl ⟨nov, 0, rfl, bl_set5 BB.out (Nat.le_refl _) _ _ _ _ _, .inr ⟨N.out, rfl⟩⟩
    | true =>
      have HG := Lib.hid hg
      clear hg
      have N := Lib.hid (show decV (s.extract p s.size) = some (⟨2, (wrap64 ((numB (s.extract (p + 1) (p + 9)) : Nat) : Int)), 0, ⟨#[]⟩⟩, 8 + 1) by rw [EV.out, HG.out]; rfl)
      go_wp2
      exact bodyPost_ret (results_blk (T := 94) (b := w.heap.size) rfl (fun _ => by kernel_rfl) (fun _ => by kernel_rfl) _ rfl (blk_set5 rfl B0.out _ _ _ _ _)) rfl ⟨⟨2, (wrap64 ((numB (s.extract (p + 1) (p + 9)) : Nat) : Int)), 0, ⟨#[]⟩⟩, 8 + 1, by first | rfl | (congr 3; omega) | (simp; omega), bl_set5 BB.out (Nat.le_refl _) _ _ _ _ _, .inl N.out⟩
  · have N := Lib.hid (show decV (s.extract p s.size) = none by rw [decV_at hp, hb]; unfold bodyD; rw [if_neg (by decide), if_neg (by decide), if_pos (by decide), if_neg (by omega)]; rfl)
    clear hb hc hls
    go_enter Try.func83, Try.ntmps83
    go_wp2
    exact bodyPost_ret (results_blk (T := 94) (b := w.heap.size) rfl (fun _ => by kernel_rfl) (fun _ => by kernel_rfl) _ rfl (blk_old (blk_new w _) _)) rfl ⟨nov, 0, rfl, by (repeat (first | assumption | exact Below.refl _ _ | refine bl_drewN ?_ _ | refine bl_drew ?_ | refine bl_alloc ?_ _ | refine bl_step ?_ (by assumption))), .inr ⟨N.out, rfl⟩⟩
set_option maxRecDepth 100000 in
set_option maxHeartbeats 4000000 in
theorem rdec_3 (s : ByteArray) (p : Nat) (w : World) (hp : p < s.size) (hz : s.size ≤ 100000) (hc : s[p] = 3) :
    Calls Try.prog 83 #[.string s, .int .i64 p] w (RdPost (decV (s.extract p s.size)) w) := by
  have hix := ix_str s p hp 3 hc
  have hb : byteAt s p = 3 := by rw [byteAt_ hp, hc]; rfl
  have hls := left_sz hp
  have hp0 : (p : Int) < (s.size : Int) := by omega
  by_cases h : 8 ≤ s.size - p - 1
  · have hq : (s.extract (p + 1) s.size).extract 0 8 = s.extract (p + 1) (p + 9) := sub_ext (by omega)
    have E0 := Lib.hid (show decV (s.extract p s.size) = ((fromF (numB (s.extract (p + 1) (p + 9)))).map (fun f => ((⟨3, 0, f, ⟨#[]⟩⟩ : Vl), 8))).bind (fun x => if goodV x.1 then some (x.1, x.2 + 1) else none) by rw [decV_at hp, hb]; unfold bodyD; rw [if_neg (by decide), if_neg (by decide), if_neg (by decide), if_pos (by decide), if_pos (by omega), hq])
    have hsn : (s.extract (p + 1) (p + 9)).size ≤ 9223372036854775807 := by rw [extract_sz]; omega
    have hp2 : (p : Int) + 9 ≤ (s.size : Int) := by omega
    have hnl := numB_lt (s.extract (p + 1) (p + 9))
    clear hb hc hls hq
    go_enter Try.func83, Try.ntmps83
    go_wp2_with fail
    refine (rnumber_any _ _ hsn).mono ?_
    rintro e w9 ⟨rfl, rfl⟩
    go_wp2_with fail
    have P0 := blk_old (blk_new w (.cells #[.int .i64 0, .int .i64 0, .float .f64 0, .string ⟨#[]⟩, .int .i64 0] 94)) (.cells #[.int .i64 3, .int .i64 0, .float .f64 0, .string ⟨#[]⟩] 24)
    have P1 := blk_new (w.alloc (.cells #[.int .i64 0, .int .i64 0, .float .f64 0, .string ⟨#[]⟩, .int .i64 0] 94)) (.cells #[.int .i64 3, .int .i64 0, .float .f64 0, .string ⟨#[]⟩] 24)
    rw [szal] at P1
    have PB : Below w.heap.size w ((w.alloc (.cells #[.int .i64 0, .int .i64 0, .float .f64 0, .string ⟨#[]⟩, .int .i64 0] 94)).alloc (.cells #[.int .i64 3, .int .i64 0, .float .f64 0, .string ⟨#[]⟩] 24)) := by (repeat (first | assumption | exact Below.refl _ _ | refine bl_drewN ?_ _ | refine bl_drew ?_ | refine bl_alloc ?_ _ | refine bl_step ?_ (by assumption)))
    generalize ((w.alloc (.cells #[.int .i64 0, .int .i64 0, .float .f64 0, .string ⟨#[]⟩, .int .i64 0] 94)).alloc (.cells #[.int .i64 3, .int .i64 0, .float .f64 0, .string ⟨#[]⟩] 24)) = W9 at P0 P1 PB ⊢
    refine (rfrom_any _ hnl _).mono ?_
    rintro e w8 ⟨rfl, hb8⟩
    have M0 := Lib.hid (blk_below P0 hb8)
    have M1 := Lib.hid (blk_below P1 hb8)
    have MB := Lib.hid (bl_step PB hb8)
    have hz8 : w.heap.size + 1 < w8.heap.size := blk_lt M1.out
    have hz80 : w.heap.size < w8.heap.size := blk_lt M0.out
    obtain ⟨k8, f8⟩ := blk_rules M0.out
    obtain ⟨k9, f9⟩ := blk_rules M1.out
    clear P0 P1 PB hb8
    cases hf : fromF (numB (s.extract (p + 1) (p + 9))) with
    | none =>
      have N := Lib.hid (show decV (s.extract p s.size) = none by rw [E0.out, hf]; rfl)
      clear hf E0
      go_wp2
      exact bodyPost_ret (results_blk (T := 94) (b := w.heap.size) rfl (fun _ => by kernel_rfl) (fun _ => by kernel_rfl) _ rfl (blk_old (blk_set5 rfl M0.out _ _ _ _ _) _)) rfl ⟨nov, 0, rfl, bl_alloc (bl_set5 MB.out (Nat.le_refl _) _ _ _ _ _) _, .inr ⟨N.out, rfl⟩⟩
    | some f =>
      have EV := Lib.hid (show decV (s.extract p s.size) = if goodV ⟨3, 0, f, ⟨#[]⟩⟩ then some (⟨3, 0, f, ⟨#[]⟩⟩, 8 + 1) else none by rw [E0.out, hf]; rfl)
      clear hf E0
      go_wp2_with fail
      have P0 := blk_old (blk_far (p := ⟨w.heap.size + 1, 2, none⟩) M0.out (show w.heap.size ≠ w.heap.size + 1 by omega) (.float .f64 f)) (.cells #[.float .f64 f, .bool true] 108)
      have P1 := blk_old (blk_set_eq (L' := #[.int .i64 3, .int .i64 0, .float .f64 f, .string ⟨#[]⟩]) M1.out 2 (.float .f64 f) rfl) (.cells #[.float .f64 f, .bool true] 108)
      have PB := bl_alloc (bl_set (p := ⟨w.heap.size + 1, 2, none⟩) MB.out (show w.heap.size ≤ w.heap.size + 1 by omega) (.float .f64 f)) (.cells #[.float .f64 f, .bool true] 108)
      generalize (w8.setCell ⟨w.heap.size + 1, 2, none⟩ (.float .f64 f)).alloc (.cells #[.float .f64 f, .bool true] 108) = W0 at P0 P1 PB ⊢
      clear k8 f8 k9 f9
      refine (rgood_any ⟨3, 0, f, ⟨#[]⟩⟩ _).mono ?_
      rintro e w1 ⟨rfl, hb⟩
      have B0 := Lib.hid (blk_below P0 hb)
      have B1 := Lib.hid (blk_below P1 hb)
      have BB := Lib.hid (bl_step PB hb)
      obtain ⟨k0, f0⟩ := blk_rules B0.out
      obtain ⟨k1, f1⟩ := blk_rules B1.out
      have hz1 := blk_lt B1.out
      clear P0 P1 PB hb 
      cases hg : goodV ⟨3, 0, f, ⟨#[]⟩⟩ with
      | false =>
        have HG := Lib.hid hg
        clear hg
        have N := Lib.hid (show decV (s.extract p s.size) = none by rw [EV.out, HG.out]; rfl)
        go_wp2
        exact bodyPost_ret (results_blk (T := 94) (b := w.heap.size) rfl (fun _ => by kernel_rfl) (fun _ => by kernel_rfl) _ rfl (blk_set5 rfl B0.out _ _ _ _ _)) rfl ⟨nov, 0, rfl, bl_set5 BB.out (Nat.le_refl _) _ _ _ _ _, .inr ⟨N.out, rfl⟩⟩
      | true =>
        have HG := Lib.hid hg
        clear hg
        have N := Lib.hid (show decV (s.extract p s.size) = some (⟨3, 0, f, ⟨#[]⟩⟩, 8 + 1) by rw [EV.out, HG.out]; rfl)
        go_wp2
        exact bodyPost_ret (results_blk (T := 94) (b := w.heap.size) rfl (fun _ => by kernel_rfl) (fun _ => by kernel_rfl) _ rfl (blk_set5 rfl B0.out _ _ _ _ _)) rfl ⟨⟨3, 0, f, ⟨#[]⟩⟩, 8 + 1, by first | rfl | (congr 3; omega) | (simp; omega), bl_set5 BB.out (Nat.le_refl _) _ _ _ _ _, .inl N.out⟩
  · have N := Lib.hid (show decV (s.extract p s.size) = none by rw [decV_at hp, hb]; unfold bodyD; rw [if_neg (by decide), if_neg (by decide), if_neg (by decide), if_pos (by decide), if_neg (by omega)]; rfl)
    clear hb hc hls
    go_enter Try.func83, Try.ntmps83
    go_wp2
    exact bodyPost_ret (results_blk (T := 94) (b := w.heap.size) rfl (fun _ => by kernel_rfl) (fun _ => by kernel_rfl) _ rfl (blk_old (blk_new w _) _)) rfl ⟨nov, 0, rfl, by (repeat (first | assumption | exact Below.refl _ _ | refine bl_drewN ?_ _ | refine bl_drew ?_ | refine bl_alloc ?_ _ | refine bl_step ?_ (by assumption))), .inr ⟨N.out, rfl⟩⟩
set_option maxRecDepth 100000 in
set_option maxHeartbeats 4000000 in
theorem rdec_4 (s : ByteArray) (p : Nat) (w : World) (hp : p < s.size) (hz : s.size ≤ 100000) (hc : s[p] = 4) :
    Calls Try.prog 83 #[.string s, .int .i64 p] w (RdPost (decV (s.extract p s.size)) w) := by
  have hix := ix_str s p hp 4 hc
  have hb : byteAt s p = 4 := by rw [byteAt_ hp, hc]; rfl
  have hls := left_sz hp
  have hp0 : (p : Int) < (s.size : Int) := by omega
  by_cases h : 2 ≤ s.size - p - 1
  · have hq : (s.extract (p + 1) s.size).extract 0 2 = s.extract (p + 1) (p + 3) := sub_ext (by omega)
    have hsn : (s.extract (p + 1) (p + 3)).size ≤ 9223372036854775807 := by rw [extract_sz]; omega
    have hn2 : numB (s.extract (p + 1) (p + 3)) < 65536 := by rw [← hq]; exact numB_2 (by omega)
    obtain ⟨n, en⟩ : ∃ n, numB (s.extract (p + 1) (p + 3)) = n := ⟨_, rfl⟩
    have HN := Lib.hid en
    rw [en] at hn2
    have hp2 : (p : Int) + 3 ≤ (s.size : Int) := by omega
    have hw : wrap64 (n : Int) = n := by unfold wrap64; omega
    by_cases h2 : n ≤ s.size - p - 1 - 2
    · have hq2 : (s.extract (p + 1) s.size).extract 2 (2 + n) = s.extract (p + 3) (p + 3 + n) := by
        rw [sub_ext (by omega)]
        rw [show p + 1 + 2 = p + 3 by omega, show p + 1 + (2 + n) = p + 3 + n by omega]
      have EV := Lib.hid (show decV (s.extract p s.size) = if goodV ⟨4, 0, 0, s.extract (p + 3) (p + 3 + n)⟩ then some (⟨4, 0, 0, s.extract (p + 3) (p + 3 + n)⟩, (2 + n) + 1) else none by rw [decV_at hp, hb]; unfold bodyD; rw [if_neg (by decide), if_neg (by decide), if_neg (by decide), if_neg (by decide), if_pos (by decide), hq, en, if_pos (by omega), hq2]; rfl)
      have hp3 : (p : Int) + 3 + n ≤ (s.size : Int) := by omega
      have hp4 : (n : Int) ≤ (s.size : Int) - p - 1 - 2 := by omega
      clear hb hc hls hq en hq2
      go_enter Try.func83, Try.ntmps83
      go_wp2_with fail
      refine (rnumber_any _ _ hsn).mono ?_
      rintro e w9 ⟨rfl, rfl⟩
      rw [HN.out]
      go_wp2_with fail
      have P0 := blk_old (blk_new w (.cells #[.int .i64 0, .int .i64 0, .float .f64 0, .string ⟨#[]⟩, .int .i64 0] 94)) (.cells #[.int .i64 4, .int .i64 0, .float .f64 0, .string (s.extract (p + 3) (p + 3 + n))] 24)
      have P1 := blk_new (w.alloc (.cells #[.int .i64 0, .int .i64 0, .float .f64 0, .string ⟨#[]⟩, .int .i64 0] 94)) (.cells #[.int .i64 4, .int .i64 0, .float .f64 0, .string (s.extract (p + 3) (p + 3 + n))] 24)
      rw [szal] at P1
      have PB : Below w.heap.size w ((w.alloc (.cells #[.int .i64 0, .int .i64 0, .float .f64 0, .string ⟨#[]⟩, .int .i64 0] 94)).alloc (.cells #[.int .i64 4, .int .i64 0, .float .f64 0, .string (s.extract (p + 3) (p + 3 + n))] 24)) := by (repeat (first | assumption | exact Below.refl _ _ | refine bl_drewN ?_ _ | refine bl_drew ?_ | refine bl_alloc ?_ _ | refine bl_step ?_ (by assumption)))
      generalize ((w.alloc (.cells #[.int .i64 0, .int .i64 0, .float .f64 0, .string ⟨#[]⟩, .int .i64 0] 94)).alloc (.cells #[.int .i64 4, .int .i64 0, .float .f64 0, .string (s.extract (p + 3) (p + 3 + n))] 24)) = W0 at P0 P1 PB ⊢
      refine (rgood_any ⟨4, 0, 0, (s.extract (p + 3) (p + 3 + n))⟩ _).mono ?_
      rintro e w1 ⟨rfl, hb⟩
      have B0 := Lib.hid (blk_below P0 hb)
      have B1 := Lib.hid (blk_below P1 hb)
      have BB := Lib.hid (bl_step PB hb)
      obtain ⟨k0, f0⟩ := blk_rules B0.out
      obtain ⟨k1, f1⟩ := blk_rules B1.out
      have hz1 := blk_lt B1.out
      clear P0 P1 PB hb 
      cases hg : goodV ⟨4, 0, 0, (s.extract (p + 3) (p + 3 + n))⟩ with
      | false =>
        have HG := Lib.hid hg
        clear hg
        have N := Lib.hid (show decV (s.extract p s.size) = none by rw [EV.out, HG.out]; rfl)
        go_wp2
        exact bodyPost_ret (results_blk (T := 94) (b := w.heap.size) rfl (fun _ => by kernel_rfl) (fun _ => by kernel_rfl) _ rfl (blk_set5 rfl B0.out _ _ _ _ _)) rfl ⟨nov, 0, rfl, bl_set5 BB.out (Nat.le_refl _) _ _ _ _ _, .inr ⟨N.out, rfl⟩⟩
      | true =>
        have HG := Lib.hid hg
        clear hg
        have N := Lib.hid (show decV (s.extract p s.size) = some (⟨4, 0, 0, (s.extract (p + 3) (p + 3 + n))⟩, (2 + n) + 1) by rw [EV.out, HG.out]; rfl)
        go_wp2
        exact bodyPost_ret (results_blk (T := 94) (b := w.heap.size) rfl (fun _ => by kernel_rfl) (fun _ => by kernel_rfl) _ rfl (blk_set5 rfl B0.out _ _ _ _ _)) rfl ⟨⟨4, 0, 0, (s.extract (p + 3) (p + 3 + n))⟩, (2 + n) + 1, by first | rfl | (congr 3; omega) | (simp; omega), bl_set5 BB.out (Nat.le_refl _) _ _ _ _ _, .inl N.out⟩
    · have N := Lib.hid (show decV (s.extract p s.size) = none by rw [decV_at hp, hb]; unfold bodyD; rw [if_neg (by decide), if_neg (by decide), if_neg (by decide), if_neg (by decide), if_pos (by decide), hq, en, if_neg (by omega)]; rfl)
      have hp4 : (s.size : Int) - p - 1 - 2 < n := by omega
      clear hb hc hls hq en
      go_enter Try.func83, Try.ntmps83
      go_wp2_with fail
      refine (rnumber_any _ _ hsn).mono ?_
      rintro e w9 ⟨rfl, rfl⟩
      rw [HN.out]
      go_wp2
      exact bodyPost_ret (results_blk (T := 94) (b := w.heap.size) rfl (fun _ => by kernel_rfl) (fun _ => by kernel_rfl) _ rfl (blk_old (blk_new w _) _)) rfl ⟨nov, 0, rfl, by (repeat (first | assumption | exact Below.refl _ _ | refine bl_drewN ?_ _ | refine bl_drew ?_ | refine bl_alloc ?_ _ | refine bl_step ?_ (by assumption))), .inr ⟨N.out, rfl⟩⟩
  · have N := Lib.hid (show decV (s.extract p s.size) = none by rw [decV_at hp, hb]; unfold bodyD; rw [if_neg (by decide), if_neg (by decide), if_neg (by decide), if_neg (by decide), if_pos (by decide), if_neg (by omega)]; rfl)
    clear hb hc hls
    go_enter Try.func83, Try.ntmps83
    go_wp2
    exact bodyPost_ret (results_blk (T := 94) (b := w.heap.size) rfl (fun _ => by kernel_rfl) (fun _ => by kernel_rfl) _ rfl (blk_old (blk_new w _) _)) rfl ⟨nov, 0, rfl, by (repeat (first | assumption | exact Below.refl _ _ | refine bl_drewN ?_ _ | refine bl_drew ?_ | refine bl_alloc ?_ _ | refine bl_step ?_ (by assumption))), .inr ⟨N.out, rfl⟩⟩
theorem rdec_any (s : ByteArray) (p : Nat) (w : World) (hp : p < s.size) (hz : s.size ≤ 100000) : Calls Try.prog 83 #[.string s, .int .i64 p] w (RdPost (decV (s.extract p s.size)) w) := by
  by_cases h5 : 5 ≤ s[p].toNat
  · exact rdec_x s p w hp hz _ rfl h5
  · have h : s[p].toNat = 0 ∨ s[p].toNat = 1 ∨ s[p].toNat = 2 ∨ s[p].toNat = 3 ∨ s[p].toNat = 4 := by omega
    rcases h with h | h | h | h | h
    · exact rdec_0 s p w hp hz (UInt8.toNat_inj.1 h)
    · exact rdec_1 s p w hp hz (UInt8.toNat_inj.1 h)
    · exact rdec_2 s p w hp hz (UInt8.toNat_inj.1 h)
    · exact rdec_3 s p w hp hz (UInt8.toNat_inj.1 h)
    · exact rdec_4 s p w hp hz (UInt8.toNat_inj.1 h)
set_option maxRecDepth 100000 in
set_option maxHeartbeats 4000000 in
theorem rdec_end (s : ByteArray) (p : Nat) (w : World) (hp : s.size ≤ p) (hz : p ≤ 100000) : Calls Try.prog 83 #[.string s, .int .i64 p] w (RdPost none w) := by
  have hp0 : (s.size : Int) ≤ (p : Int) := by omega
  go_enter Try.func83, Try.ntmps83
  go_wp2
  exact bodyPost_ret (results_blk (T := 94) (b := w.heap.size) rfl (fun _ => by kernel_rfl) (fun _ => by kernel_rfl) _ rfl (blk_new w _)) rfl ⟨nov, 0, rfl, by (repeat (first | assumption | exact Below.refl _ _ | refine bl_drewN ?_ _ | refine bl_drew ?_ | refine bl_alloc ?_ _ | refine bl_step ?_ (by assumption))), .inr ⟨rfl, rfl⟩⟩
end Go.Proofs.Ytbmaeaknlpgdmaa
