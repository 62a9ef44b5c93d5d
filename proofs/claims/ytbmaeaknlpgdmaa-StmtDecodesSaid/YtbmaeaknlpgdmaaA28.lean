/- stmt's reader: its parts. stmt's reader: names, flags, values. -/
import Derived.Test.YtbmaeaknlpgdmaaA26
import Derived.Test.YtbmaeaknlpgdmaaA27
namespace Go.Proofs.Ytbmaeaknlpgdmaa
open Go.RowKit
set_option linter.unusedVariables false
set_option linter.unusedSimpArgs false
set_option linter.constructorNameAsVariable false
theorem off_set1 (br i : Nat) (u : Value) (w : World) : Off br br w (w.setCell ⟨br, i, none⟩ u) := off_set (off_refl br br w) (.inl rfl) u
theorem dpost_no {α : Type} {br : Nat} {w w' : World} {val : α → Value} {F : α → Prop} {ok : Bool} {D : Option (α × ByteArray)} (x : α) {b : ByteArray} (h : ok = false ∨ D = none) (hF : F x) (hb : RB br b false w') (ho : Off br br w w') (hz : b.size ≤ 100000) : DPost br w val F (okD ok D) (.returned (val x)) w' :=
  ⟨x, b, false, rfl, hb, ho, hz, .inr ⟨rfl, by rcases h with rfl | rfl <;> simp [okD], hF⟩⟩
theorem dpost_yes {α : Type} {br : Nat} {w w' : World} {val : α → Value} {F : α → Prop} {D : Option (α × ByteArray)} {x : α} {b : ByteArray} (h : D = some (x, b)) (hb : RB br b true w') (ho : Off br br w w') (hz : b.size ≤ 100000) : DPost br w val F (okD true D) (.returned (val x)) w' :=
  ⟨x, b, true, rfl, hb, ho, hz, .inl ⟨rfl, by rw [h]; rfl⟩⟩

set_option maxRecDepth 100000 in
set_option maxHeartbeats 1000000 in
theorem take_any (br : Nat) (b : ByteArray) (ok : Bool) (n : Nat) (w : World) (hw : RB br b ok w) (hz : b.size ≤ 100000) :
    Calls Try.prog 54 #[.pointer (some ⟨br, 0, none⟩), .int .i64 n] w (DPost br w Value.string (fun s => s = ByteArray.empty) (okD ok (takeD n b))) := by
  have HW := Lib.hid hw
  obtain ⟨k1, f1⟩ := blk_rules hw
  clear hw
  cases ok with
  | false =>
    go_enter Try.func54, Try.ntmps54
    go_wp2
    go_ret
    exact dpost_no ByteArray.empty (.inl rfl) rfl (b := b) (blk_set_eq HW.out 1 _ rfl) (off_set1 _ _ _ _) hz
  | true =>
    by_cases h : n ≤ b.size
    · have E := Lib.hid (show takeD n b = some (b.extract 0 n, b.extract n b.size) from if_pos h)
      go_enter Try.func54, Try.ntmps54
      go_wp2
      go_ret
      exact dpost_yes E.out (blk_set_eq HW.out 0 _ rfl) (off_set1 _ _ _ _) (by rw [extract_sz]; omega)
    · have E := Lib.hid (show takeD n b = none from if_neg h)
      go_enter Try.func54, Try.ntmps54
      go_wp2
      go_ret
      exact dpost_no ByteArray.empty (.inr E.out) rfl (b := b) (blk_set_eq HW.out 1 _ rfl) (off_set1 _ _ _ _) hz
/-- Where it has failed, n may be whatever. -/
theorem take_no (br : Nat) (b : ByteArray) (n : Int) (w : World) (hw : RB br b false w) (hz : b.size ≤ 100000) :
    Calls Try.prog 54 #[.pointer (some ⟨br, 0, none⟩), .int .i64 n] w (DPost br w Value.string (fun s => s = ByteArray.empty) none) := by
  have HW := Lib.hid hw
  obtain ⟨k1, f1⟩ := blk_rules hw
  clear hw
  go_enter Try.func54, Try.ntmps54
  go_wp2
  go_ret
  exact dpost_no (ok := false) (D := none) ByteArray.empty (.inl rfl) rfl (b := b) (blk_set_eq HW.out 1 _ rfl) (off_set1 _ _ _ _) hz
theorem first_byte {b : ByteArray} (h : 1 ≤ b.size) : byteAt (b.extract 0 1) 0 = byteAt b 0 := by
  have h1 : 0 < (b.extract 0 1).size := by rw [extract_sz]; omega
  rw [byteAt_ h1, byteAt_ (show 0 < b.size by omega), ByteArray.getElem_extract]

set_option maxRecDepth 100000 in
set_option maxHeartbeats 1000000 in
theorem num_any (br : Nat) (b : ByteArray) (ok : Bool) (w : World) (hw : RB br b ok w) (hz : b.size ≤ 100000) :
    Calls Try.prog 27 #[.pointer (some ⟨br, 0, none⟩)] w (DPost br w (fun n : Nat => .int .i64 n) (fun n => n = 0) (okD ok (numD b))) := by
  have HW := Lib.hid hw
  clear hw
  go_enter Try.func27, Try.ntmps27
  go_wp2_with fail
  refine (take_any br b ok 1 w HW.out hz).mono ?_
  rintro e w1 ⟨x, b', ok', rfl, hb', ho, hz', hr⟩
  have HB := Lib.hid hb'
  have HO := Lib.hid ho
  clear hb' ho
  rcases hr with ⟨rfl, hr⟩ | ⟨rfl, hr, rfl⟩
  · cases ok with
    | false => cases hr
    | true =>
      by_cases h : 1 ≤ b.size
      · rw [show okD true (takeD 1 b) = some (b.extract 0 1, b.extract 1 b.size) from if_pos h] at hr
        cases hr
        have hx0 : 0 < (b.extract 0 1).size := by rw [extract_sz]; omega
        have E := Lib.hid ((byte_w _ hx0).trans (by rw [first_byte h]))
        have hne : (b.extract 0 1).toList.isEmpty = false := by rw [str_beq_nil, decide_eq_false_iff_not]; intro h2; rw [h2] at hx0; exact absurd hx0 (by decide)
        have N := Lib.hid (show numD b = some (byteAt b 0, b.extract 1 b.size) from if_pos h)
        generalize b.extract 0 1 = x at *
        go_wp2
        go_ret
        have e2 := E.out
        rw [e2]
        exact dpost_yes N.out HB.out HO.out hz'
      · rw [show okD true (takeD 1 b) = none from if_neg h] at hr
        cases hr
  · have N := Lib.hid (show ok = false ∨ numD b = none by
      cases ok with
      | false => exact .inl rfl
      | true =>
        right
        by_cases h : 1 ≤ b.size
        · rw [show okD true (takeD 1 b) = some (b.extract 0 1, b.extract 1 b.size) from if_pos h] at hr
          cases hr
        · exact if_neg h)
    clear hr
    go_wp2
    go_ret
    exact dpost_no 0 N.out rfl HB.out HO.out hz'
end Go.Proofs.Ytbmaeaknlpgdmaa
namespace Go.Proofs.Ytbmaeaknlpgdmaa
open Go.RowKit
set_option linter.unusedVariables false
set_option linter.unusedSimpArgs false
set_option linter.constructorNameAsVariable false
theorem okD_bind {α β : Type} {ok : Bool} {D : Option (α × ByteArray)} {f : α × ByteArray → Option β} : (if ok = true then D.bind f else none) = (okD ok D).bind f := by cases ok <;> rfl
theorem okD_none {α : Type} {ok : Bool} {D : Option (α × ByteArray)} (h : okD ok D = none) : ok = false ∨ D = none := by
  cases ok with
  | false => exact .inl rfl
  | true => exact .inr h
theorem okD_some {α : Type} {ok : Bool} {D : Option (α × ByteArray)} {x : α × ByteArray} (h : okD ok D = some x) : ok = true ∧ D = some x := by
  cases ok with
  | false => cases h
  | true => exact ⟨rfl, h⟩
set_option maxRecDepth 100000 in
set_option maxHeartbeats 1000000 in
theorem name_r (br : Nat) (b : ByteArray) (ok : Bool) (w : World) (hw : RB br b ok w) (hz : b.size ≤ 100000) :
    Calls Try.prog 55 #[.pointer (some ⟨br, 0, none⟩)] w (DPost br w Value.string (fun s => s = ByteArray.empty) (okD ok (nameD b))) := by
  have HW := Lib.hid hw
  clear hw
  go_enter Try.func55, Try.ntmps55
  go_wp2_with fail
  refine (num_any br b ok w HW.out hz).mono ?_
  rintro e w1 ⟨n, b1, ok1, rfl, hb1, ho1, hz1, hr⟩
  have HB := Lib.hid hb1
  have HO := Lib.hid ho1
  clear hb1 ho1
  rcases hr with ⟨rfl, hr⟩ | ⟨rfl, hr, rfl⟩
  · obtain ⟨hok, hr2⟩ := okD_some hr
    subst hok
    clear hr
    have h1 := numD_le hr2
    have N := Lib.hid (show nameD b = takeD n b1 by unfold nameD; rw [hr2]; rfl)
    clear hr2 h1
    go_wp2_with fail
    refine (take_any br b1 true n w1 HB.out hz1).mono ?_
    rintro e w2 ⟨x, b2, ok2, rfl, hb2, ho2, hz2, hr3⟩
    go_wp2
    go_ret
    exact ⟨x, b2, ok2, rfl, hb2, off_trans HO.out ho2, hz2, by rw [N.out]; exact hr3⟩
  · have N := Lib.hid (show ok = false ∨ nameD b = none by
      rcases okD_none hr with h | h
      · exact .inl h
      · right; unfold nameD; rw [h]; rfl)
    clear hr
    go_wp2_with fail
    refine (take_no br b1 _ w1 HB.out hz1).mono ?_
    rintro e w2 ⟨x, b2, ok2, rfl, hb2, ho2, hz2, hr2⟩
    rcases hr2 with ⟨_, hr2⟩ | ⟨rfl, _, rfl⟩
    · cases hr2
    · go_wp2
      go_ret
      exact dpost_no ByteArray.empty N.out rfl hb2 (off_trans HO.out ho2) hz2

set_option maxRecDepth 100000 in
set_option maxHeartbeats 1000000 in
theorem flag_r (br : Nat) (b : ByteArray) (ok : Bool) (w : World) (hw : RB br b ok w) (hz : b.size ≤ 100000) :
    Calls Try.prog 58 #[.pointer (some ⟨br, 0, none⟩)] w (DPost br w Value.bool (fun _ => True) (okD ok (flagD b))) := by
  have HW := Lib.hid hw
  clear hw
  go_enter Try.func58, Try.ntmps58
  go_wp2_with fail
  refine (num_any br b ok w HW.out hz).mono ?_
  rintro e w1 ⟨n, b1, ok1, rfl, hb1, ho1, hz1, hr⟩
  have HB := Lib.hid hb1
  have HO := Lib.hid ho1
  obtain ⟨k1, f1⟩ := blk_rules hb1
  clear hb1 ho1
  rcases hr with ⟨rfl, hr⟩ | ⟨rfl, hr, rfl⟩
  · obtain ⟨hok, hr2⟩ := okD_some hr
    subst hok
    clear hr
    by_cases h2 : n < 2
    · have N := Lib.hid (show flagD b = some (n == 1, b1) by unfold flagD; rw [hr2]; exact if_pos h2)
      clear hr2
      have h3 : n = 0 ∨ n = 1 := by omega
      clear h2
      rcases h3 with rfl | rfl
      all_goals
        go_wp2
        go_ret
        exact dpost_yes N.out (blk_set_eq HB.out 1 _ rfl) (off_set HO.out (.inl rfl) _) hz1
    · have N := Lib.hid (show flagD b = none by unfold flagD; rw [hr2]; exact if_neg h2)
      have h4 : ¬ ((n : Int) < 2) := by omega
      have h5 : decide ((n : Int) < 2) = false := decide_eq_false h4
      clear hr2
      go_wp2
      go_ret
      exact dpost_no (val := Value.bool) _ (.inr N.out) trivial (b := b1) (blk_set_eq HB.out 1 _ rfl) (off_set HO.out (.inl rfl) _) hz1
  · have N := Lib.hid (show ok = false ∨ flagD b = none by
      rcases okD_none hr with h | h
      · exact .inl h
      · right; unfold flagD; rw [h]; rfl)
    clear hr
    go_wp2
    go_ret
    exact dpost_no (val := Value.bool) _ N.out trivial (b := b1) (blk_set_eq HB.out 1 _ rfl) (off_set HO.out (.inl rfl) _) hz1

theorem blk_far4 {w : World} {b c : Nat} {x : Obj} (h : w.heap[b]? = some x) (hne : b ≠ c) (u0 u1 u2 u3 : Value) :
    ((((w.setCell ⟨c, 0, none⟩ u0).setCell ⟨c, 1, none⟩ u1).setCell ⟨c, 2, none⟩ u2).setCell ⟨c, 3, none⟩ u3).heap[b]? = some x :=
  blk_far (p := ⟨c, 3, none⟩) (blk_far (p := ⟨c, 2, none⟩) (blk_far (p := ⟨c, 1, none⟩) (blk_far (p := ⟨c, 0, none⟩) h hne u0) hne u1) hne u2) hne u3
theorem off_set4 {a b c : Nat} {w w1 : World} (h : Off a b w w1) (hc : c = a ∨ c = b ∨ w.heap.size ≤ c) (u0 u1 u2 u3 : Value) :
    Off a b w ((((w1.setCell ⟨c, 0, none⟩ u0).setCell ⟨c, 1, none⟩ u1).setCell ⟨c, 2, none⟩ u2).setCell ⟨c, 3, none⟩ u3) :=
  off_set (p := ⟨c, 3, none⟩) (off_set (p := ⟨c, 2, none⟩) (off_set (p := ⟨c, 1, none⟩) (off_set (p := ⟨c, 0, none⟩) h hc u0) hc u1) hc u2) hc u3
theorem sz_set (w : World) (p : Addr) (u : Value) : (w.setCell p u).heap.size = w.heap.size := by simp [World.setCell]
theorem blk_new_set (w : World) (p : Addr) (u : Value) (o : Obj) : ((w.setCell p u).alloc o).heap[w.heap.size]? = some o := by
  have := blk_new (w.setCell p u) o
  rwa [sz_set] at this
set_option maxRecDepth 100000 in
set_option maxHeartbeats 1000000 in
theorem value_r (br : Nat) (b : ByteArray) (ok : Bool) (w : World) (hw : RB br b ok w) (hz : b.size ≤ 100000) :
    Calls Try.prog 56 #[.pointer (some ⟨br, 0, none⟩)] w (DPost br w Vl.agg (fun _ => True) (okD ok (valD b))) := by
  have HW := Lib.hid hw
  obtain ⟨k1, f1⟩ := blk_rules hw
  have hlt := blk_lt hw
  clear hw
  go_enter Try.func56, Try.ntmps56
  go_wp2_with fail
  refine (vdec_any b _ hz).mono ?_
  rintro e w1 ⟨v, m, ok2, rfl, hb1, hr⟩
  have B0 := blk_below (blk_new w (.cells #[.int .i64 0, .int .i64 0, .float .f64 0, .string ⟨#[]⟩] 24)) hb1
  have BR := blk_below (blk_old HW.out (.cells #[.int .i64 0, .int .i64 0, .float .f64 0, .string ⟨#[]⟩] 24)) hb1
  have hB1 : Off br br w w1 := off_below (off_alloc (off_refl _ _ _) _) hb1
  have hs1 := blk_lt B0
  obtain ⟨k2, f2⟩ := blk_rules B0
  obtain ⟨k3, f3⟩ := blk_rules BR
  have HB0 := Lib.hid B0
  have HBR := Lib.hid BR
  have HB1 := Lib.hid hB1
  have hlt1 : br < w1.heap.size := Nat.lt_trans hlt hs1
  clear hb1 B0 BR hB1 k1 f1
  have P2 := fun u => Lib.hid (blk_new_set w1 ⟨br, 1, none⟩ (.bool u) (.cells #[.int .i64 v.k, .int .i64 v.n, .float .f64 v.f, .string v.s] 24))
  have P0 := fun u => Lib.hid (blk_old (blk_far HB0.out (show w.heap.size ≠ (⟨br, 1, none⟩ : Addr).block by show _ ≠ br; omega) (.bool u)) (.cells #[.int .i64 v.k, .int .i64 v.n, .float .f64 v.f, .string v.s] 24))
  have PR := fun u => Lib.hid (blk_old (blk_set_eq (L' := #[.string b, .bool u]) HBR.out 1 (.bool u) rfl) (.cells #[.int .i64 v.k, .int .i64 v.n, .float .f64 v.f, .string v.s] 24))
  have PO := fun u => Lib.hid (off_alloc (off_set HB1.out (p := ⟨br, 1, none⟩) (.inl rfl) (.bool u)) (.cells #[.int .i64 v.k, .int .i64 v.n, .float .f64 v.f, .string v.s] 24))
  by_cases hk : ok = true ∧ ok2 = true
  · obtain ⟨rfl, rfl⟩ := hk
    rcases hr with ⟨_, hr⟩ | ⟨h, _⟩
    · have N := Lib.hid (show valD b = some (v, b.extract m b.size) by unfold valD; rw [hr]; rfl)
      have hm := (decV_good hr).2.2.2
      have T := Lib.hid (show takeD m b = some (b.extract 0 m, b.extract m b.size) from if_pos hm)
      clear hr hm
      go_wp2_with fail
      replace P2 := P2 true
      replace P0 := P0 true
      replace PR := PR true
      replace PO := PO true
      generalize (w1.setCell ⟨br, 1, none⟩ (.bool true)).alloc (.cells #[.int .i64 v.k, .int .i64 v.n, .float .f64 v.f, .string v.s] 24) = w2 at P2 P0 PR PO ⊢
      refine (take_any br b true m _ PR.out hz).mono ?_
      rintro e w3 ⟨x, b', ok', rfl, hb', ho, hz', hr⟩
      rcases hr with ⟨rfl, hr⟩ | ⟨_, hr, _⟩
      · rw [show okD true (takeD m b) = some (b.extract 0 m, b.extract m b.size) from T.out] at hr
        cases hr
        have Q0 := Lib.hid (off_blk ho P0.out (by omega) (by omega))
        have Q2 := Lib.hid (off_blk ho P2.out (by omega) (by omega))
        have QO := Lib.hid (off_trans PO.out ho)
        have QR := Lib.hid hb'
        obtain ⟨k4, f4⟩ := blk_rules Q0.out
        obtain ⟨k5, f5⟩ := blk_rules Q2.out
        have hs3 := blk_lt Q0.out
        clear hb' ho k2 f2 k3 f3
        go_wp2
        exact bodyPost_ret (results_blk (T := 24) (b := w.heap.size) rfl (fun _ => by kernel_rfl) (fun _ => by kernel_rfl) _ rfl (blk_set4 rfl Q0.out _ _ _ _)) rfl (dpost_yes (val := Vl.agg) N.out (blk_far4 QR.out (by omega) _ _ _ _) (off_set4 QO.out (.inr (.inr (Nat.le_refl _))) _ _ _ _) hz')
      · rw [show okD true (takeD m b) = some (b.extract 0 m, b.extract m b.size) from T.out] at hr
        cases hr
    · cases h
  · have N := Lib.hid (show ok = false ∨ valD b = none by
      rcases hr with ⟨rfl, _⟩ | ⟨_, hr⟩
      · left; cases ok with
        | false => rfl
        | true => exact absurd ⟨rfl, rfl⟩ hk
      · right; unfold valD; rw [hr]; rfl)
    have hk2 : ok = false ∨ (ok = true ∧ ok2 = false) := by cases ok <;> cases ok2 <;> simp_all
    clear hr hk
    rcases hk2 with rfl | ⟨rfl, rfl⟩
    all_goals
      go_wp2_with fail
      replace P2 := P2 false
      replace P0 := P0 false
      replace PR := PR false
      replace PO := PO false
      generalize (w1.setCell ⟨br, 1, none⟩ (.bool false)).alloc (.cells #[.int .i64 v.k, .int .i64 v.n, .float .f64 v.f, .string v.s] 24) = w2 at P2 P0 PR PO ⊢
      refine (take_no br b m _ PR.out hz).mono ?_
      rintro e w3 ⟨x, b', ok', rfl, hb', ho, hz', hr⟩
      rcases hr with ⟨_, hr⟩ | ⟨rfl, _, _⟩
      · cases hr
      have Q0 := Lib.hid (off_blk ho P0.out (by omega) (by omega))
      have Q2 := Lib.hid (off_blk ho P2.out (by omega) (by omega))
      have QO := Lib.hid (off_trans PO.out ho)
      have QR := Lib.hid hb'
      obtain ⟨k4, f4⟩ := blk_rules Q0.out
      obtain ⟨k5, f5⟩ := blk_rules Q2.out
      have hs3 := blk_lt Q0.out
      clear hb' ho k2 f2 k3 f3
      go_wp2
      exact bodyPost_ret (results_blk (T := 24) (b := w.heap.size) rfl (fun _ => by kernel_rfl) (fun _ => by kernel_rfl) _ rfl (blk_set4 rfl Q0.out _ _ _ _)) rfl (dpost_no (val := Vl.agg) _ (by first | exact N.out | exact .inl rfl) trivial (blk_far4 QR.out (by omega) _ _ _ _) (off_set4 QO.out (.inr (.inr (Nat.le_refl _))) _ _ _ _) hz')
end Go.Proofs.Ytbmaeaknlpgdmaa
