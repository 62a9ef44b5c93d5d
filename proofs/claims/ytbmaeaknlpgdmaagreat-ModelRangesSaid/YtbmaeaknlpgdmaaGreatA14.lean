/- Lemmas on what the functions under this seat compute. -/
import Derived.Test.YtbmaeaknlpgdmaaGreatA13
namespace Go.Proofs.YtbmaeaknlpgdmaaGreat
open Go.RowKit
theorem asc1 (c : UInt8) (h : c.toNat < 128) : Ascii ⟨#[c]⟩ := by
  intro i hi
  have h0 : i = 0 := by have : (⟨#[c]⟩ : ByteArray).size = 1 := rfl; omega
  subst h0; exact h
theorem asc2 (c d : UInt8) (h : c.toNat < 128) (h' : d.toNat < 128) : Ascii ⟨#[c, d]⟩ := by
  intro i hi
  have h0 : i = 0 ∨ i = 1 := by have : (⟨#[c, d]⟩ : ByteArray).size = 2 := rfl; omega
  rcases h0 with rfl | rfl
  · exact h
  · exact h'

set_option maxRecDepth 100000 in
set_option maxHeartbeats 8000000 in
theorem sbare_any (s : St) (l : ByteArray) (A A' : Option Addr) (n c m d : Nat) (w : World) (hl : Ascii l) (hr : RdV w A n s.row) (hc : RdC w A' m s.cols) : Pure Tryz.prog 103 #[s.agg (.slice A n c) (.slice A' m d), .string l] w (.bool (bareB' s l)) := by
  have HL := Lib.hid hl
  have hn : s.row.length = n := hr.1
  have hm : s.cols.length = m := hc.1
  have HN := Lib.hid hn
  have HM := Lib.hid hm
  clear hl hr hc hn hm
  have hmf : ∀ (fn : Fn) (first cap : Array Value) (w : World), (Instr.makeFunc fn first cap).run Tryz.prog w = .ok (.func fn first cap) w := fun _ _ _ _ => rfl
  go_enter Tryz.func103, Tryz.ntmps103
  go_upto_region 2 with fail
  simp only [List.append_eq, List.cons_append, List.nil_append]
  have P0 : ((w.alloc (.cells #[.int .i64 s.k, .string s.t, .string s.nm, .string s.c, .string s.se, .int .i64 s.v.k, .int .i64 s.v.n, .float .f64 s.v.f, .string s.v.s, .int .i64 s.w.k, .int .i64 s.w.n, .float .f64 s.w.f, .string s.w.s, .slice A n c, .slice A' m d, .bool s.fl] 37)).alloc (.cells #[.string l] 9)).heap[w.heap.size]? = some (.cells #[.int .i64 s.k, .string s.t, .string s.nm, .string s.c, .string s.se, .int .i64 s.v.k, .int .i64 s.v.n, .float .f64 s.v.f, .string s.v.s, .int .i64 s.w.k, .int .i64 s.w.n, .float .f64 s.w.f, .string s.w.s, .slice A n c, .slice A' m d, .bool s.fl] 37 (0, 0)) := blk_old (blk_new w _) _
  have P1 : ((w.alloc (.cells #[.int .i64 s.k, .string s.t, .string s.nm, .string s.c, .string s.se, .int .i64 s.v.k, .int .i64 s.v.n, .float .f64 s.v.f, .string s.v.s, .int .i64 s.w.k, .int .i64 s.w.n, .float .f64 s.w.f, .string s.w.s, .slice A n c, .slice A' m d, .bool s.fl] 37)).alloc (.cells #[.string l] 9)).heap[w.heap.size + 1]? = some (.cells #[.string l] 9 (0, 0)) := by
    have h := blk_new (w.alloc (.cells #[.int .i64 s.k, .string s.t, .string s.nm, .string s.c, .string s.se, .int .i64 s.v.k, .int .i64 s.v.n, .float .f64 s.v.f, .string s.v.s, .int .i64 s.w.k, .int .i64 s.w.n, .float .f64 s.w.f, .string s.w.s, .slice A n c, .slice A' m d, .bool s.fl] 37)) (.cells #[.string l] 9)
    rwa [szal] at h
  have PB : Below w.heap.size w ((w.alloc (.cells #[.int .i64 s.k, .string s.t, .string s.nm, .string s.c, .string s.se, .int .i64 s.v.k, .int .i64 s.v.n, .float .f64 s.v.f, .string s.v.s, .int .i64 s.w.k, .int .i64 s.w.n, .float .f64 s.w.f, .string s.w.s, .slice A n c, .slice A' m d, .bool s.fl] 37)).alloc (.cells #[.string l] 9)) := by (repeat (first | assumption | exact Below.refl _ _ | refine bl_drewN ?_ _ | refine bl_drew ?_ | refine bl_alloc ?_ _ | refine bl_step ?_ (by assumption)))
  have PS := szal (w.alloc (.cells #[.int .i64 s.k, .string s.t, .string s.nm, .string s.c, .string s.se, .int .i64 s.v.k, .int .i64 s.v.n, .float .f64 s.v.f, .string s.v.s, .int .i64 s.w.k, .int .i64 s.w.n, .float .f64 s.w.f, .string s.w.s, .slice A n c, .slice A' m d, .bool s.fl] 37)) (.cells #[.string l] 9)
  generalize ((w.alloc (.cells #[.int .i64 s.k, .string s.t, .string s.nm, .string s.c, .string s.se, .int .i64 s.v.k, .int .i64 s.v.n, .float .f64 s.v.f, .string s.v.s, .int .i64 s.w.k, .int .i64 s.w.n, .float .f64 s.w.f, .string s.w.s, .slice A n c, .slice A' m d, .bool s.fl] 37)).alloc (.cells #[.string l] 9)) = W0 at P0 P1 PB PS ⊢
  have C0 := Lib.hid P0
  have C1 := Lib.hid P1
  have B0 := Lib.hid PB
  clear P0 P1 PB PS
  obtain ⟨b1, hb1⟩ : ∃ b, (s.t.toList.isEmpty) = b := ⟨_, rfl⟩
  obtain ⟨x1, hx1⟩ : ∃ x, hasB l ⟨#[116]⟩ = x := ⟨_, rfl⟩
  have X1 := Lib.hid hx1
  have Y1 := Lib.hid hb1
  clear hx1
  obtain ⟨k1, f1⟩ := blk_rules C0.out
  repeat ((fail_if_success (with_reducible refine atGrp ?_)); (first | go_guarded | go_step))
  refine grp b1 x1 (.func (.func 137) #[] #[.pointer (some ⟨w.heap.size + 1, 0, none⟩)]) (by cases b1 <;> rfl) (by intro u; cases b1 <;> rfl) (by intro u1 u2; cases b1 <;> rfl) (by intro u1 u2 u3; rfl) ?_ ?_ ?_ ?_ ?_
  · intro K hK
    go_simp
    exact hK
  · intro K hK
    go_simp
    refine (none_any l ⟨#[116]⟩ (w.heap.size + 1) _ HL.out (asc1 _ (by decide)) (by rw [(blk_rules C1.out).1]; rfl)).mono ?_
    rintro e w1 ⟨rfl, hb⟩
    rw [X1.out]
    exact hK _ hb
  · intro K W hK
    go_simp
    exact hK
  · intro u1 u2 u3 K W hu hK
    go_simp
    cases b1 with
    | true => exact hK
    | false => have h3 := hu rfl; subst h3; exact hK
  intro p1 q1 r1 W1 hW
  conv => arg 5; simp only [Act.put, List.setIfInBounds_toArray, List.set_cons_succ, List.set_cons_zero]
  have C0 := Lib.hid (blk_below C0.out hW)
  have C1 := Lib.hid (blk_below C1.out hW)
  have B0 := Lib.hid (bl_step B0.out hW)
  clear k1 f1 hW hb1
  cases hq : (b1 || x1) with
  | false =>
    have Hq := Lib.hid hq
    clear hq
    have E : bareB' s l = false := by
      have e : ((s.t.toList.isEmpty) || hasB l ⟨#[116]⟩) = false := by rw [Y1.out, X1.out]; exact Hq.out
      unfold bareB'; rw [e]; simp
    have HE := Lib.hid E
    clear E
    go_wp2
    go_ret
    exact ⟨by rw [HE.out]; rfl, B0.out⟩
  | true =>
    have Q1 := Lib.hid hq
    clear hq
    obtain ⟨b2, hb2⟩ : ∃ b, (s.nm.toList.isEmpty) = b := ⟨_, rfl⟩
    obtain ⟨x2, hx2⟩ : ∃ x, hasB l ⟨#[110]⟩ = x := ⟨_, rfl⟩
    have X2 := Lib.hid hx2
    have Y2 := Lib.hid hb2
    clear hx2
    obtain ⟨k2, f2⟩ := blk_rules C0.out
    repeat ((fail_if_success (with_reducible refine atGrp ?_)); (first | go_guarded | go_step))
    refine grp b2 x2 (.func (.func 137) #[] #[.pointer (some ⟨w.heap.size + 1, 0, none⟩)]) (by cases b2 <;> rfl) (by intro u; cases b2 <;> rfl) (by intro u1 u2; cases b2 <;> rfl) (by intro u1 u2 u3; rfl) ?_ ?_ ?_ ?_ ?_
    · intro K hK
      go_simp
      exact hK
    · intro K hK
      go_simp
      refine (none_any l ⟨#[110]⟩ (w.heap.size + 1) _ HL.out (asc1 _ (by decide)) (by rw [(blk_rules C1.out).1]; rfl)).mono ?_
      rintro e w1 ⟨rfl, hb⟩
      rw [X2.out]
      exact hK _ hb
    · intro K W hK
      go_simp
      exact hK
    · intro u1 u2 u3 K W hu hK
      go_simp
      cases b2 with
      | true => exact hK
      | false => have h3 := hu rfl; subst h3; exact hK
    intro p2 q2 r2 W2 hW
    conv => arg 5; simp only [Act.put, List.setIfInBounds_toArray, List.set_cons_succ, List.set_cons_zero]
    have C0 := Lib.hid (blk_below C0.out hW)
    have C1 := Lib.hid (blk_below C1.out hW)
    have B0 := Lib.hid (bl_step B0.out hW)
    clear k2 f2 hW hb2
    cases hq : (b2 || x2) with
    | false =>
      have Hq := Lib.hid hq
      clear hq
      have E : bareB' s l = false := by
        have e : ((s.nm.toList.isEmpty) || hasB l ⟨#[110]⟩) = false := by rw [Y2.out, X2.out]; exact Hq.out
        unfold bareB'; rw [e]; simp
      have HE := Lib.hid E
      clear E
      go_wp2
      go_ret
      exact ⟨by rw [HE.out]; rfl, B0.out⟩
    | true =>
      have Q2 := Lib.hid hq
      clear hq
      obtain ⟨b3, hb3⟩ : ∃ b, (s.c.toList.isEmpty) = b := ⟨_, rfl⟩
      obtain ⟨x3, hx3⟩ : ∃ x, hasB l ⟨#[99]⟩ = x := ⟨_, rfl⟩
      have X3 := Lib.hid hx3
      have Y3 := Lib.hid hb3
      clear hx3
      obtain ⟨k3, f3⟩ := blk_rules C0.out
      repeat ((fail_if_success (with_reducible refine atGrp ?_)); (first | go_guarded | go_step))
      refine grp b3 x3 (.func (.func 137) #[] #[.pointer (some ⟨w.heap.size + 1, 0, none⟩)]) (by cases b3 <;> rfl) (by intro u; cases b3 <;> rfl) (by intro u1 u2; cases b3 <;> rfl) (by intro u1 u2 u3; rfl) ?_ ?_ ?_ ?_ ?_
      · intro K hK
        go_simp
        exact hK
      · intro K hK
        go_simp
        refine (none_any l ⟨#[99]⟩ (w.heap.size + 1) _ HL.out (asc1 _ (by decide)) (by rw [(blk_rules C1.out).1]; rfl)).mono ?_
        rintro e w1 ⟨rfl, hb⟩
        rw [X3.out]
        exact hK _ hb
      · intro K W hK
        go_simp
        exact hK
      · intro u1 u2 u3 K W hu hK
        go_simp
        cases b3 with
        | true => exact hK
        | false => have h3 := hu rfl; subst h3; exact hK
      intro p3 q3 r3 W3 hW
      conv => arg 5; simp only [Act.put, List.setIfInBounds_toArray, List.set_cons_succ, List.set_cons_zero]
      have C0 := Lib.hid (blk_below C0.out hW)
      have C1 := Lib.hid (blk_below C1.out hW)
      have B0 := Lib.hid (bl_step B0.out hW)
      clear k3 f3 hW hb3
      cases hq : (b3 || x3) with
      | false =>
        have Hq := Lib.hid hq
        clear hq
        have E : bareB' s l = false := by
          have e : ((s.c.toList.isEmpty) || hasB l ⟨#[99]⟩) = false := by rw [Y3.out, X3.out]; exact Hq.out
          unfold bareB'; rw [e]; simp
        have HE := Lib.hid E
        clear E
        go_wp2
        go_ret
        exact ⟨by rw [HE.out]; rfl, B0.out⟩
      | true =>
        have Q3 := Lib.hid hq
        clear hq
        obtain ⟨b4, hb4⟩ : ∃ b, (s.se.toList.isEmpty) = b := ⟨_, rfl⟩
        obtain ⟨x4, hx4⟩ : ∃ x, hasB l ⟨#[115]⟩ = x := ⟨_, rfl⟩
        have X4 := Lib.hid hx4
        have Y4 := Lib.hid hb4
        clear hx4
        obtain ⟨k4, f4⟩ := blk_rules C0.out
        repeat ((fail_if_success (with_reducible refine atGrp ?_)); (first | go_guarded | go_step))
        refine grp b4 x4 (.func (.func 137) #[] #[.pointer (some ⟨w.heap.size + 1, 0, none⟩)]) (by cases b4 <;> rfl) (by intro u; cases b4 <;> rfl) (by intro u1 u2; cases b4 <;> rfl) (by intro u1 u2 u3; rfl) ?_ ?_ ?_ ?_ ?_
        · intro K hK
          go_simp
          exact hK
        · intro K hK
          go_simp
          refine (none_any l ⟨#[115]⟩ (w.heap.size + 1) _ HL.out (asc1 _ (by decide)) (by rw [(blk_rules C1.out).1]; rfl)).mono ?_
          rintro e w1 ⟨rfl, hb⟩
          rw [X4.out]
          exact hK _ hb
        · intro K W hK
          go_simp
          exact hK
        · intro u1 u2 u3 K W hu hK
          go_simp
          cases b4 with
          | true => exact hK
          | false => have h3 := hu rfl; subst h3; exact hK
        intro p4 q4 r4 W4 hW
        conv => arg 5; simp only [Act.put, List.setIfInBounds_toArray, List.set_cons_succ, List.set_cons_zero]
        have C0 := Lib.hid (blk_below C0.out hW)
        have C1 := Lib.hid (blk_below C1.out hW)
        have B0 := Lib.hid (bl_step B0.out hW)
        clear k4 f4 hW hb4
        cases hq : (b4 || x4) with
        | false =>
          have Hq := Lib.hid hq
          clear hq
          have E : bareB' s l = false := by
            have e : ((s.se.toList.isEmpty) || hasB l ⟨#[115]⟩) = false := by rw [Y4.out, X4.out]; exact Hq.out
            unfold bareB'; rw [e]; simp
          have HE := Lib.hid E
          clear E
          go_wp2
          go_ret
          exact ⟨by rw [HE.out]; rfl, B0.out⟩
        | true =>
          have Q4 := Lib.hid hq
          clear hq
          obtain ⟨b5, hb5⟩ : ∃ b, (zeroV s.v) = b := ⟨_, rfl⟩
          obtain ⟨x5, hx5⟩ : ∃ x, hasB l ⟨#[118]⟩ = x := ⟨_, rfl⟩
          have X5 := Lib.hid hx5
          have Y5 := Lib.hid hb5
          clear hx5 hb5
          obtain ⟨k5, f5⟩ := blk_rules C0.out
          repeat ((fail_if_success (with_reducible refine atGrp ?_)); (first | go_guarded | go_step))
          refine (zero_any s.v _).mono ?_
          rintro e V5 ⟨rfl, hv5⟩
          rw [show (s.v.k == 0 && goodV s.v) = b5 from Y5.out]
          have C0 := Lib.hid (blk_below C0.out hv5)
          have C1 := Lib.hid (blk_below C1.out hv5)
          have B0 := Lib.hid (bl_step B0.out hv5)
          clear k5 f5 hv5
          obtain ⟨k5, f5⟩ := blk_rules C0.out
          dsimp only
          repeat ((fail_if_success (with_reducible refine atGrp ?_)); (first | go_guarded | go_step))
          refine grp b5 x5 (.func (.func 137) #[] #[.pointer (some ⟨w.heap.size + 1, 0, none⟩)]) (by cases b5 <;> rfl) (by intro u; cases b5 <;> rfl) (by intro u1 u2; cases b5 <;> rfl) (by intro u1 u2 u3; rfl) ?_ ?_ ?_ ?_ ?_
          · intro K hK
            go_simp
            exact hK
          · intro K hK
            go_simp
            refine (none_any l ⟨#[118]⟩ (w.heap.size + 1) _ HL.out (asc1 _ (by decide)) (by rw [(blk_rules C1.out).1]; rfl)).mono ?_
            rintro e w1 ⟨rfl, hb⟩
            rw [X5.out]
            exact hK _ hb
          · intro K W hK
            go_simp
            exact hK
          · intro u1 u2 u3 K W hu hK
            go_simp
            cases b5 with
            | true => exact hK
            | false => have h3 := hu rfl; subst h3; exact hK
          intro p5 q5 r5 W5 hW
          conv => arg 5; simp only [Act.put, List.setIfInBounds_toArray, List.set_cons_succ, List.set_cons_zero]
          have C0 := Lib.hid (blk_below C0.out hW)
          have C1 := Lib.hid (blk_below C1.out hW)
          have B0 := Lib.hid (bl_step B0.out hW)
          clear k5 f5 hW
          cases hq : (b5 || x5) with
          | false =>
            have Hq := Lib.hid hq
            clear hq
            have E : bareB' s l = false := by
              have e : ((zeroV s.v) || hasB l ⟨#[118]⟩) = false := by rw [show zeroV s.v = b5 from Y5.out, X5.out]; exact Hq.out
              unfold bareB'; rw [e]; simp
            have HE := Lib.hid E
            clear E
            go_wp2
            go_ret
            exact ⟨by rw [HE.out]; rfl, B0.out⟩
          | true =>
            have Q5 := Lib.hid hq
            clear hq
            obtain ⟨b6, hb6⟩ : ∃ b, (zeroV s.w) = b := ⟨_, rfl⟩
            obtain ⟨x6, hx6⟩ : ∃ x, hasB l ⟨#[119]⟩ = x := ⟨_, rfl⟩
            have X6 := Lib.hid hx6
            have Y6 := Lib.hid hb6
            clear hx6 hb6
            obtain ⟨k6, f6⟩ := blk_rules C0.out
            repeat ((fail_if_success (with_reducible refine atGrp ?_)); (first | go_guarded | go_step))
            refine (zero_any s.w _).mono ?_
            rintro e V6 ⟨rfl, hv6⟩
            rw [show (s.w.k == 0 && goodV s.w) = b6 from Y6.out]
            have C0 := Lib.hid (blk_below C0.out hv6)
            have C1 := Lib.hid (blk_below C1.out hv6)
            have B0 := Lib.hid (bl_step B0.out hv6)
            clear k6 f6 hv6
            obtain ⟨k6, f6⟩ := blk_rules C0.out
            dsimp only
            repeat ((fail_if_success (with_reducible refine atGrp ?_)); (first | go_guarded | go_step))
            refine grp b6 x6 (.func (.func 137) #[] #[.pointer (some ⟨w.heap.size + 1, 0, none⟩)]) (by cases b6 <;> rfl) (by intro u; cases b6 <;> rfl) (by intro u1 u2; cases b6 <;> rfl) (by intro u1 u2 u3; rfl) ?_ ?_ ?_ ?_ ?_
            · intro K hK
              go_simp
              exact hK
            · intro K hK
              go_simp
              refine (none_any l ⟨#[119]⟩ (w.heap.size + 1) _ HL.out (asc1 _ (by decide)) (by rw [(blk_rules C1.out).1]; rfl)).mono ?_
              rintro e w1 ⟨rfl, hb⟩
              rw [X6.out]
              exact hK _ hb
            · intro K W hK
              go_simp
              exact hK
            · intro u1 u2 u3 K W hu hK
              go_simp
              cases b6 with
              | true => exact hK
              | false => have h3 := hu rfl; subst h3; exact hK
            intro p6 q6 r6 W6 hW
            conv => arg 5; simp only [Act.put, List.setIfInBounds_toArray, List.set_cons_succ, List.set_cons_zero]
            have C0 := Lib.hid (blk_below C0.out hW)
            have C1 := Lib.hid (blk_below C1.out hW)
            have B0 := Lib.hid (bl_step B0.out hW)
            clear k6 f6 hW
            cases hq : (b6 || x6) with
            | false =>
              have Hq := Lib.hid hq
              clear hq
              have E : bareB' s l = false := by
                have e : ((zeroV s.w) || hasB l ⟨#[119]⟩) = false := by rw [show zeroV s.w = b6 from Y6.out, X6.out]; exact Hq.out
                unfold bareB'; rw [e]; simp
              have HE := Lib.hid E
              clear E
              go_wp2
              go_ret
              exact ⟨by rw [HE.out]; rfl, B0.out⟩
            | true =>
              have Q6 := Lib.hid hq
              clear hq
              obtain ⟨b7, hb7⟩ : ∃ b, (((n : Nat) : Int) == 0) = b := ⟨_, rfl⟩
              obtain ⟨x7, hx7⟩ : ∃ x, hasB l ⟨#[114]⟩ = x := ⟨_, rfl⟩
              have X7 := Lib.hid hx7
              have Y7 := Lib.hid hb7
              clear hx7
              obtain ⟨k7, f7⟩ := blk_rules C0.out
              repeat ((fail_if_success (with_reducible refine atGrp ?_)); (first | go_guarded | go_step))
              refine grp b7 x7 (.func (.func 137) #[] #[.pointer (some ⟨w.heap.size + 1, 0, none⟩)]) (by cases b7 <;> rfl) (by intro u; cases b7 <;> rfl) (by intro u1 u2; cases b7 <;> rfl) (by intro u1 u2 u3; rfl) ?_ ?_ ?_ ?_ ?_
              · intro K hK
                go_simp
                exact hK
              · intro K hK
                go_simp
                refine (none_any l ⟨#[114]⟩ (w.heap.size + 1) _ HL.out (asc1 _ (by decide)) (by rw [(blk_rules C1.out).1]; rfl)).mono ?_
                rintro e w1 ⟨rfl, hb⟩
                rw [X7.out]
                exact hK _ hb
              · intro K W hK
                go_simp
                exact hK
              · intro u1 u2 u3 K W hu hK
                go_simp
                cases b7 with
                | true => exact hK
                | false => have h3 := hu rfl; subst h3; exact hK
              intro p7 q7 r7 W7 hW
              conv => arg 5; simp only [Act.put, List.setIfInBounds_toArray, List.set_cons_succ, List.set_cons_zero]
              have C0 := Lib.hid (blk_below C0.out hW)
              have C1 := Lib.hid (blk_below C1.out hW)
              have B0 := Lib.hid (bl_step B0.out hW)
              clear k7 f7 hW hb7
              cases hq : (b7 || x7) with
              | false =>
                have Hq := Lib.hid hq
                clear hq
                have E : bareB' s l = false := by
                  have e : ((((s.row.length : Nat) : Int) == 0) || hasB l ⟨#[114]⟩) = false := by rw [HN.out, Y7.out, X7.out]; exact Hq.out
                  unfold bareB'; rw [e]; simp
                have HE := Lib.hid E
                clear E
                go_wp2
                go_ret
                exact ⟨by rw [HE.out]; rfl, B0.out⟩
              | true =>
                have Q7 := Lib.hid hq
                clear hq
                obtain ⟨b8, hb8⟩ : ∃ b, (((m : Nat) : Int) == 0) = b := ⟨_, rfl⟩
                obtain ⟨x8, hx8⟩ : ∃ x, hasB l ⟨#[100, 111]⟩ = x := ⟨_, rfl⟩
                have X8 := Lib.hid hx8
                have Y8 := Lib.hid hb8
                clear hx8
                obtain ⟨k8, f8⟩ := blk_rules C0.out
                repeat ((fail_if_success (with_reducible refine atGrp ?_)); (first | go_guarded | go_step))
                refine grp b8 x8 (.func (.func 137) #[] #[.pointer (some ⟨w.heap.size + 1, 0, none⟩)]) (by cases b8 <;> rfl) (by intro u; cases b8 <;> rfl) (by intro u1 u2; cases b8 <;> rfl) (by intro u1 u2 u3; rfl) ?_ ?_ ?_ ?_ ?_
                · intro K hK
                  go_simp
                  exact hK
                · intro K hK
                  go_simp
                  refine (none_any l ⟨#[100, 111]⟩ (w.heap.size + 1) _ HL.out (asc2 _ _ (by decide) (by decide)) (by rw [(blk_rules C1.out).1]; rfl)).mono ?_
                  rintro e w1 ⟨rfl, hb⟩
                  rw [X8.out]
                  exact hK _ hb
                · intro K W hK
                  go_simp
                  exact hK
                · intro u1 u2 u3 K W hu hK
                  go_simp
                  cases b8 with
                  | true => exact hK
                  | false => have h3 := hu rfl; subst h3; exact hK
                intro p8 q8 r8 W8 hW
                conv => arg 5; simp only [Act.put, List.setIfInBounds_toArray, List.set_cons_succ, List.set_cons_zero]
                have C0 := Lib.hid (blk_below C0.out hW)
                have C1 := Lib.hid (blk_below C1.out hW)
                have B0 := Lib.hid (bl_step B0.out hW)
                clear k8 f8 hW hb8
                cases hq : (b8 || x8) with
                | false =>
                  have Hq := Lib.hid hq
                  clear hq
                  have E : bareB' s l = false := by
                    have e : ((((s.cols.length : Nat) : Int) == 0) || hasB l ⟨#[100, 111]⟩) = false := by rw [HM.out, Y8.out, X8.out]; exact Hq.out
                    unfold bareB'; rw [e]; simp
                  have HE := Lib.hid E
                  clear E
                  go_wp2
                  go_ret
                  exact ⟨by rw [HE.out]; rfl, B0.out⟩
                | true =>
                  have Q8 := Lib.hid hq
                  clear hq
                  obtain ⟨b9, hb9⟩ : ∃ b, (!s.fl) = b := ⟨_, rfl⟩
                  obtain ⟨x9, hx9⟩ : ∃ x, hasB l ⟨#[102]⟩ = x := ⟨_, rfl⟩
                  have X9 := Lib.hid hx9
                  have Y9 := Lib.hid hb9
                  clear hx9
                  obtain ⟨k9, f9⟩ := blk_rules C0.out
                  repeat ((fail_if_success (with_reducible refine atGrp ?_)); (first | go_guarded | go_step))
                  refine grp b9 x9 (.func (.func 137) #[] #[.pointer (some ⟨w.heap.size + 1, 0, none⟩)]) (by cases b9 <;> rfl) (by intro u; cases b9 <;> rfl) (by intro u1 u2; cases b9 <;> rfl) (by intro u1 u2 u3; rfl) ?_ ?_ ?_ ?_ ?_
                  · intro K hK
                    go_simp
                    exact hK
                  · intro K hK
                    go_simp
                    refine (none_any l ⟨#[102]⟩ (w.heap.size + 1) _ HL.out (asc1 _ (by decide)) (by rw [(blk_rules C1.out).1]; rfl)).mono ?_
                    rintro e w1 ⟨rfl, hb⟩
                    rw [X9.out]
                    exact hK _ hb
                  · intro K W hK
                    go_simp
                    exact hK
                  · intro u1 u2 u3 K W hu hK
                    go_simp
                    cases b9 with
                    | true => exact hK
                    | false => have h3 := hu rfl; subst h3; exact hK
                  intro p9 q9 r9 W9 hW
                  conv => arg 5; simp only [Act.put, List.setIfInBounds_toArray, List.set_cons_succ, List.set_cons_zero]
                  have C0 := Lib.hid (blk_below C0.out hW)
                  have C1 := Lib.hid (blk_below C1.out hW)
                  have B0 := Lib.hid (bl_step B0.out hW)
                  clear k9 f9 hW hb9
                  cases hq : (b9 || x9) with
                  | false =>
                    have Hq := Lib.hid hq
                    clear hq
                    have E : bareB' s l = false := by
                      have e : ((!s.fl) || hasB l ⟨#[102]⟩) = false := by rw [Y9.out, X9.out]; exact Hq.out
                      unfold bareB'; rw [e]; simp
                    have HE := Lib.hid E
                    clear E
                    go_wp2
                    go_ret
                    exact ⟨by rw [HE.out]; rfl, B0.out⟩
                  | true =>
                    have Q9 := Lib.hid hq
                    clear hq
                    go_wp2
                    go_ret
                    have E : bareB' s l = true := by
                      have e1 : (s.t.toList.isEmpty || hasB l ⟨#[116]⟩) = true := by rw [Y1.out, X1.out]; exact Q1.out
                      have e2 : (s.nm.toList.isEmpty || hasB l ⟨#[110]⟩) = true := by rw [Y2.out, X2.out]; exact Q2.out
                      have e3 : (s.c.toList.isEmpty || hasB l ⟨#[99]⟩) = true := by rw [Y3.out, X3.out]; exact Q3.out
                      have e4 : (s.se.toList.isEmpty || hasB l ⟨#[115]⟩) = true := by rw [Y4.out, X4.out]; exact Q4.out
                      have e5 : (zeroV s.v || hasB l ⟨#[118]⟩) = true := by rw [show zeroV s.v = b5 from Y5.out, X5.out]; exact Q5.out
                      have e6 : (zeroV s.w || hasB l ⟨#[119]⟩) = true := by rw [show zeroV s.w = b6 from Y6.out, X6.out]; exact Q6.out
                      have e7 : (((s.row.length : Nat) : Int) == 0 || hasB l ⟨#[114]⟩) = true := by rw [HN.out, Y7.out, X7.out]; exact Q7.out
                      have e8 : (((s.cols.length : Nat) : Int) == 0 || hasB l ⟨#[100, 111]⟩) = true := by rw [HM.out, Y8.out, X8.out]; exact Q8.out
                      have e9 : (!s.fl || hasB l ⟨#[102]⟩) = true := by rw [Y9.out, X9.out]; exact Q9.out
                      unfold bareB'
                      rw [e1, e2, e3, e4, e5, e6, e7, e8, e9]
                      rfl
                    exact ⟨by rw [E]; rfl, B0.out⟩
end Go.Proofs.YtbmaeaknlpgdmaaGreat
