/- stmt's reader: a field. stmt.Decode: what it answers. -/
import Derived.Test.YtbmaeaknlpgdmaaA29
import Derived.Test.YtbmaeaknlpgdmaaA16
import Derived.Test.YtbmaeaknlpgdmaaA17
namespace Go.Proofs.Ytbmaeaknlpgdmaa
open Go.RowKit
set_option linter.unusedVariables false
set_option linter.unusedSimpArgs false
set_option linter.constructorNameAsVariable false
/-- A slice that reads as a list, from block lo on. -/
def LS {α : Type} (cs : α → List Value) (size : Nat) (w : World) (V : Value) (xs : List α) (lo : Nat) : Prop :=
  ∃ A c, V = .slice A xs.length c ∧ Rd cs size w A xs.length xs ∧ ∀ p, A = some p → lo ≤ p.block
theorem LS.off {α : Type} {cs : α → List Value} {size : Nat} {w w' : World} {V : Value} {xs : List α} {lo a b : Nat} (h : LS cs size w V xs lo) (ho : Off a b w w') (ha : a < lo) (hb : b < lo) : LS cs size w' V xs lo := by
  obtain ⟨A, c, e, hr, hf⟩ := h
  exact ⟨A, c, e, hr.off ho (fun p hp => by have := hf p hp; omega), hf⟩
/-- A statement that lies in a block of its own; its lists. -/
def InS (bs lo : Nat) (s : St) (R C : Value) (w : World) : Prop :=
  w.heap[bs]? = some (.cells (s.row16 R C) 28 (0, 0)) ∧ LS Vl.cs 4 w R s.row lo ∧ LS Cl.cs 7 w C s.cols lo
def GPost (br bs lo : Nat) (r : Option (St × ByteArray)) (w : World) (e : Ending) (w' : World) : Prop :=
  ∃ s' R' C' b' ok', e = .returned (.tuple #[]) ∧ RB br b' ok' w' ∧ InS bs lo s' R' C' w' ∧ Off br bs w w' ∧ b'.size ≤ 100000 ∧ ((ok' = true ∧ r = some (s', b')) ∨ (ok' = false ∧ r = none))
theorem map_post {α β : Type} {ok ok' : Bool} {D : Option (α × ByteArray)} {x : α} {b' : ByteArray} {F : α → Prop} {f : α → β} (h : (ok' = true ∧ okD ok D = some (x, b')) ∨ (ok' = false ∧ okD ok D = none ∧ F x)) :
    (ok' = true ∧ okD ok (D.map fun y => (f y.1, y.2)) = some (f x, b')) ∨ (ok' = false ∧ okD ok (D.map fun y => (f y.1, y.2)) = none) := by
  rcases h with ⟨rfl, h⟩ | ⟨rfl, h, _⟩
  · obtain ⟨rfl, h2⟩ := okD_some h
    left; refine ⟨rfl, ?_⟩
    show D.map _ = _
    rw [h2]; rfl
  · right; refine ⟨rfl, ?_⟩
    rcases okD_none h with rfl | h2
    · rfl
    · rw [h2]; cases ok <;> rfl
theorem off_one (a : Nat) (i : Nat) (u : Value) (w : World) : Off a a w (w.setCell ⟨a, i, none⟩ u) := off_set (off_refl a a w) (.inl rfl) u
set_option maxRecDepth 100000 in
set_option maxHeartbeats 1000000 in
theorem get_t (br bs lo : Nat) (b : ByteArray) (ok : Bool) (s : St) (R C : Value) (w : World) (hw : RB br b ok w) (hz : b.size ≤ 100000) (hs : InS bs lo s R C w) (hne : br ≠ bs) (h1 : br < lo) (h2 : bs < lo) (h3 : lo ≤ w.heap.size) :
    Calls Try.prog 28 #[.pointer (some ⟨br, 0, none⟩), .int .u8 116, .pointer (some ⟨bs, 0, none⟩)] w (GPost br bs lo (okD ok (decF s b .t)) w) := by
  have HW := Lib.hid hw
  have HS := Lib.hid hs
  clear hw hs
  go_enter Try.func28, Try.ntmps28
  go_wp2_with fail
  refine (name_r br b ok w HW.out hz).mono ?_
  rintro e w1 ⟨x, b', ok', rfl, hb', ho, hz', hr⟩
  have B1 := off_blk ho HS.out.1 (Ne.symm hne) (Ne.symm hne)
  have BR := Lib.hid hb'
  have HO := Lib.hid ho
  have HB1 := Lib.hid B1
  obtain ⟨k1, f1⟩ := blk_rules B1
  have hP := map_post (F := fun s => s = ByteArray.empty) (f := fun y => { s with t := y }) hr
  have HP := Lib.hid hP
  clear hb' ho B1 hr hP
  go_wp2
  go_end0
  have hO := off_set (p := ⟨bs, 1, none⟩) (off_l HO.out) (.inr (.inl rfl)) (.string x)
  exact ⟨{ s with t := x }, R, C, b', ok', rfl, blk_far (p := ⟨bs, 1, none⟩) BR.out hne (.string x), ⟨blk_set_eq HB1.out 1 (.string x) rfl, HS.out.2.1.off hO h1 h2, HS.out.2.2.off hO h1 h2⟩, hO, hz', HP.out⟩
set_option maxRecDepth 100000 in
set_option maxHeartbeats 1000000 in
theorem get_n (br bs lo : Nat) (b : ByteArray) (ok : Bool) (s : St) (R C : Value) (w : World) (hw : RB br b ok w) (hz : b.size ≤ 100000) (hs : InS bs lo s R C w) (hne : br ≠ bs) (h1 : br < lo) (h2 : bs < lo) (h3 : lo ≤ w.heap.size) :
    Calls Try.prog 28 #[.pointer (some ⟨br, 0, none⟩), .int .u8 110, .pointer (some ⟨bs, 0, none⟩)] w (GPost br bs lo (okD ok (decF s b .n)) w) := by
  have HW := Lib.hid hw
  have HS := Lib.hid hs
  clear hw hs
  go_enter Try.func28, Try.ntmps28
  go_wp2_with fail
  refine (name_r br b ok w HW.out hz).mono ?_
  rintro e w1 ⟨x, b', ok', rfl, hb', ho, hz', hr⟩
  have B1 := off_blk ho HS.out.1 (Ne.symm hne) (Ne.symm hne)
  have BR := Lib.hid hb'
  have HO := Lib.hid ho
  have HB1 := Lib.hid B1
  obtain ⟨k1, f1⟩ := blk_rules B1
  have hP := map_post (F := fun s => s = ByteArray.empty) (f := fun y => { s with nm := y }) hr
  have HP := Lib.hid hP
  clear hb' ho B1 hr hP
  go_wp2
  go_end0
  have hO := off_set (p := ⟨bs, 2, none⟩) (off_l HO.out) (.inr (.inl rfl)) (.string x)
  exact ⟨{ s with nm := x }, R, C, b', ok', rfl, blk_far (p := ⟨bs, 2, none⟩) BR.out hne (.string x), ⟨blk_set_eq HB1.out 2 (.string x) rfl, HS.out.2.1.off hO h1 h2, HS.out.2.2.off hO h1 h2⟩, hO, hz', HP.out⟩
set_option maxRecDepth 100000 in
set_option maxHeartbeats 1000000 in
theorem get_c (br bs lo : Nat) (b : ByteArray) (ok : Bool) (s : St) (R C : Value) (w : World) (hw : RB br b ok w) (hz : b.size ≤ 100000) (hs : InS bs lo s R C w) (hne : br ≠ bs) (h1 : br < lo) (h2 : bs < lo) (h3 : lo ≤ w.heap.size) :
    Calls Try.prog 28 #[.pointer (some ⟨br, 0, none⟩), .int .u8 99, .pointer (some ⟨bs, 0, none⟩)] w (GPost br bs lo (okD ok (decF s b .c)) w) := by
  have HW := Lib.hid hw
  have HS := Lib.hid hs
  clear hw hs
  go_enter Try.func28, Try.ntmps28
  go_wp2_with fail
  refine (name_r br b ok w HW.out hz).mono ?_
  rintro e w1 ⟨x, b', ok', rfl, hb', ho, hz', hr⟩
  have B1 := off_blk ho HS.out.1 (Ne.symm hne) (Ne.symm hne)
  have BR := Lib.hid hb'
  have HO := Lib.hid ho
  have HB1 := Lib.hid B1
  obtain ⟨k1, f1⟩ := blk_rules B1
  have hP := map_post (F := fun s => s = ByteArray.empty) (f := fun y => { s with c := y }) hr
  have HP := Lib.hid hP
  clear hb' ho B1 hr hP
  go_wp2
  go_end0
  have hO := off_set (p := ⟨bs, 3, none⟩) (off_l HO.out) (.inr (.inl rfl)) (.string x)
  exact ⟨{ s with c := x }, R, C, b', ok', rfl, blk_far (p := ⟨bs, 3, none⟩) BR.out hne (.string x), ⟨blk_set_eq HB1.out 3 (.string x) rfl, HS.out.2.1.off hO h1 h2, HS.out.2.2.off hO h1 h2⟩, hO, hz', HP.out⟩
set_option maxRecDepth 100000 in
set_option maxHeartbeats 1000000 in
theorem get_s (br bs lo : Nat) (b : ByteArray) (ok : Bool) (s : St) (R C : Value) (w : World) (hw : RB br b ok w) (hz : b.size ≤ 100000) (hs : InS bs lo s R C w) (hne : br ≠ bs) (h1 : br < lo) (h2 : bs < lo) (h3 : lo ≤ w.heap.size) :
    Calls Try.prog 28 #[.pointer (some ⟨br, 0, none⟩), .int .u8 115, .pointer (some ⟨bs, 0, none⟩)] w (GPost br bs lo (okD ok (decF s b .s)) w) := by
  have HW := Lib.hid hw
  have HS := Lib.hid hs
  clear hw hs
  go_enter Try.func28, Try.ntmps28
  go_wp2_with fail
  refine (name_r br b ok w HW.out hz).mono ?_
  rintro e w1 ⟨x, b', ok', rfl, hb', ho, hz', hr⟩
  have B1 := off_blk ho HS.out.1 (Ne.symm hne) (Ne.symm hne)
  have BR := Lib.hid hb'
  have HO := Lib.hid ho
  have HB1 := Lib.hid B1
  obtain ⟨k1, f1⟩ := blk_rules B1
  have hP := map_post (F := fun s => s = ByteArray.empty) (f := fun y => { s with se := y }) hr
  have HP := Lib.hid hP
  clear hb' ho B1 hr hP
  go_wp2
  go_end0
  have hO := off_set (p := ⟨bs, 4, none⟩) (off_l HO.out) (.inr (.inl rfl)) (.string x)
  exact ⟨{ s with se := x }, R, C, b', ok', rfl, blk_far (p := ⟨bs, 4, none⟩) BR.out hne (.string x), ⟨blk_set_eq HB1.out 4 (.string x) rfl, HS.out.2.1.off hO h1 h2, HS.out.2.2.off hO h1 h2⟩, hO, hz', HP.out⟩
set_option maxRecDepth 100000 in
set_option maxHeartbeats 1000000 in
theorem get_v (br bs lo : Nat) (b : ByteArray) (ok : Bool) (s : St) (R C : Value) (w : World) (hw : RB br b ok w) (hz : b.size ≤ 100000) (hs : InS bs lo s R C w) (hne : br ≠ bs) (h1 : br < lo) (h2 : bs < lo) (h3 : lo ≤ w.heap.size) :
    Calls Try.prog 28 #[.pointer (some ⟨br, 0, none⟩), .int .u8 118, .pointer (some ⟨bs, 0, none⟩)] w (GPost br bs lo (okD ok (decF s b .v)) w) := by
  have HW := Lib.hid hw
  have HS := Lib.hid hs
  clear hw hs
  go_enter Try.func28, Try.ntmps28
  go_wp2_with fail
  refine (value_r br b ok w HW.out hz).mono ?_
  rintro e w1 ⟨x, b', ok', rfl, hb', ho, hz', hr⟩
  have B1 := off_blk ho HS.out.1 (Ne.symm hne) (Ne.symm hne)
  have BR := Lib.hid hb'
  have HO := Lib.hid ho
  have HB1 := Lib.hid B1
  obtain ⟨k1, f1⟩ := blk_rules B1
  have hP := map_post (F := fun _ => True) (f := fun y => { s with v := y }) hr
  have HP := Lib.hid hP
  clear hb' ho B1 hr hP
  go_wp2
  go_end0
  have hO := off_set (p := ⟨bs, 8, none⟩) (off_set (p := ⟨bs, 7, none⟩) (off_set (p := ⟨bs, 6, none⟩) (off_set (p := ⟨bs, 5, none⟩) (off_l HO.out) (.inr (.inl rfl)) (.int .i64 x.k)) (.inr (.inl rfl)) (.int .i64 x.n)) (.inr (.inl rfl)) (.float .f64 x.f)) (.inr (.inl rfl)) (.string x.s)
  exact ⟨{ s with v := x }, R, C, b', ok', rfl, blk_far (p := ⟨bs, 8, none⟩) (blk_far (p := ⟨bs, 7, none⟩) (blk_far (p := ⟨bs, 6, none⟩) (blk_far (p := ⟨bs, 5, none⟩) (BR.out) hne (.int .i64 x.k)) hne (.int .i64 x.n)) hne (.float .f64 x.f)) hne (.string x.s), ⟨blk_set_eq (blk_set_eq (blk_set_eq (blk_set_eq HB1.out 5 (.int .i64 x.k) rfl) 6 (.int .i64 x.n) rfl) 7 (.float .f64 x.f) rfl) 8 (.string x.s) rfl, HS.out.2.1.off hO h1 h2, HS.out.2.2.off hO h1 h2⟩, hO, hz', HP.out⟩
set_option maxRecDepth 100000 in
set_option maxHeartbeats 1000000 in
theorem get_w (br bs lo : Nat) (b : ByteArray) (ok : Bool) (s : St) (R C : Value) (w : World) (hw : RB br b ok w) (hz : b.size ≤ 100000) (hs : InS bs lo s R C w) (hne : br ≠ bs) (h1 : br < lo) (h2 : bs < lo) (h3 : lo ≤ w.heap.size) :
    Calls Try.prog 28 #[.pointer (some ⟨br, 0, none⟩), .int .u8 119, .pointer (some ⟨bs, 0, none⟩)] w (GPost br bs lo (okD ok (decF s b .w)) w) := by
  have HW := Lib.hid hw
  have HS := Lib.hid hs
  clear hw hs
  go_enter Try.func28, Try.ntmps28
  go_wp2_with fail
  refine (value_r br b ok w HW.out hz).mono ?_
  rintro e w1 ⟨x, b', ok', rfl, hb', ho, hz', hr⟩
  have B1 := off_blk ho HS.out.1 (Ne.symm hne) (Ne.symm hne)
  have BR := Lib.hid hb'
  have HO := Lib.hid ho
  have HB1 := Lib.hid B1
  obtain ⟨k1, f1⟩ := blk_rules B1
  have hP := map_post (F := fun _ => True) (f := fun y => { s with w := y }) hr
  have HP := Lib.hid hP
  clear hb' ho B1 hr hP
  go_wp2
  go_end0
  have hO := off_set (p := ⟨bs, 12, none⟩) (off_set (p := ⟨bs, 11, none⟩) (off_set (p := ⟨bs, 10, none⟩) (off_set (p := ⟨bs, 9, none⟩) (off_l HO.out) (.inr (.inl rfl)) (.int .i64 x.k)) (.inr (.inl rfl)) (.int .i64 x.n)) (.inr (.inl rfl)) (.float .f64 x.f)) (.inr (.inl rfl)) (.string x.s)
  exact ⟨{ s with w := x }, R, C, b', ok', rfl, blk_far (p := ⟨bs, 12, none⟩) (blk_far (p := ⟨bs, 11, none⟩) (blk_far (p := ⟨bs, 10, none⟩) (blk_far (p := ⟨bs, 9, none⟩) (BR.out) hne (.int .i64 x.k)) hne (.int .i64 x.n)) hne (.float .f64 x.f)) hne (.string x.s), ⟨blk_set_eq (blk_set_eq (blk_set_eq (blk_set_eq HB1.out 9 (.int .i64 x.k) rfl) 10 (.int .i64 x.n) rfl) 11 (.float .f64 x.f) rfl) 12 (.string x.s) rfl, HS.out.2.1.off hO h1 h2, HS.out.2.2.off hO h1 h2⟩, hO, hz', HP.out⟩
set_option maxRecDepth 100000 in
set_option maxHeartbeats 1000000 in
theorem get_r (br bs lo : Nat) (b : ByteArray) (ok : Bool) (s : St) (R C : Value) (w : World) (hw : RB br b ok w) (hz : b.size ≤ 100000) (hs : InS bs lo s R C w) (hne : br ≠ bs) (h1 : br < lo) (h2 : bs < lo) (h3 : lo ≤ w.heap.size) :
    Calls Try.prog 28 #[.pointer (some ⟨br, 0, none⟩), .int .u8 114, .pointer (some ⟨bs, 0, none⟩)] w (GPost br bs lo (okD ok (decF s b .r)) w) := by
  have HW := Lib.hid hw
  have HS := Lib.hid hs
  clear hw hs
  go_enter Try.func28, Try.ntmps28
  go_wp2_with fail
  refine (row_r br b ok w HW.out hz).mono ?_
  rintro e w1 ⟨A, c, x, b', ok', rfl, hb', ho, hz', hrd, hfr, hr⟩
  have B1 := off_blk ho HS.out.1 (Ne.symm hne) (Ne.symm hne)
  have BR := Lib.hid hb'
  have HO := Lib.hid ho
  have HB1 := Lib.hid B1
  obtain ⟨k1, f1⟩ := blk_rules B1
  have HL := Lib.hid hrd
  have HFR := Lib.hid hfr
  clear hrd hfr
  have hP := map_post (F := fun _ => True) (f := fun y => { s with row := y }) (hr.imp id (fun h => ⟨h.1, h.2, trivial⟩))
  have HP := Lib.hid hP
  clear hb' ho B1 hr hP
  go_wp2
  go_end0
  have hO := off_set (p := ⟨bs, 13, none⟩) (off_l HO.out) (.inr (.inl rfl)) (.slice A x.length c)
  exact ⟨{ s with row := x }, (.slice A x.length c), C, b', ok', rfl, blk_far (p := ⟨bs, 13, none⟩) BR.out hne (.slice A x.length c), ⟨blk_set_eq HB1.out 13 (.slice A x.length c) rfl, ⟨A, c, rfl, HL.out.off (off_one bs 13 _ w1) (fun p hp => by have := HFR.out p hp; omega), fun p hp => by have := HFR.out p hp; omega⟩, HS.out.2.2.off hO h1 h2⟩, hO, hz', HP.out⟩
set_option maxRecDepth 100000 in
set_option maxHeartbeats 1000000 in
theorem get_d (br bs lo : Nat) (b : ByteArray) (ok : Bool) (s : St) (R C : Value) (w : World) (hw : RB br b ok w) (hz : b.size ≤ 100000) (hs : InS bs lo s R C w) (hne : br ≠ bs) (h1 : br < lo) (h2 : bs < lo) (h3 : lo ≤ w.heap.size) :
    Calls Try.prog 28 #[.pointer (some ⟨br, 0, none⟩), .int .u8 100, .pointer (some ⟨bs, 0, none⟩)] w (GPost br bs lo (okD ok (decF s b .d)) w) := by
  have HW := Lib.hid hw
  have HS := Lib.hid hs
  clear hw hs
  go_enter Try.func28, Try.ntmps28
  go_wp2_with fail
  refine (columns_r br b ok w HW.out hz).mono ?_
  rintro e w1 ⟨A, c, x, b', ok', rfl, hb', ho, hz', hrd, hfr, hr⟩
  have B1 := off_blk ho HS.out.1 (Ne.symm hne) (Ne.symm hne)
  have BR := Lib.hid hb'
  have HO := Lib.hid ho
  have HB1 := Lib.hid B1
  obtain ⟨k1, f1⟩ := blk_rules B1
  have HL := Lib.hid hrd
  have HFR := Lib.hid hfr
  clear hrd hfr
  have hP := map_post (F := fun _ => True) (f := fun y => { s with cols := y }) (hr.imp id (fun h => ⟨h.1, h.2, trivial⟩))
  have HP := Lib.hid hP
  clear hb' ho B1 hr hP
  go_wp2
  go_end0
  have hO := off_set (p := ⟨bs, 14, none⟩) (off_l HO.out) (.inr (.inl rfl)) (.slice A x.length c)
  exact ⟨{ s with cols := x }, R, (.slice A x.length c), b', ok', rfl, blk_far (p := ⟨bs, 14, none⟩) BR.out hne (.slice A x.length c), ⟨blk_set_eq HB1.out 14 (.slice A x.length c) rfl, HS.out.2.1.off hO h1 h2, ⟨A, c, rfl, HL.out.off (off_one bs 14 _ w1) (fun p hp => by have := HFR.out p hp; omega), fun p hp => by have := HFR.out p hp; omega⟩⟩, hO, hz', HP.out⟩
set_option maxRecDepth 100000 in
set_option maxHeartbeats 1000000 in
theorem get_o (br bs lo : Nat) (b : ByteArray) (ok : Bool) (s : St) (R C : Value) (w : World) (hw : RB br b ok w) (hz : b.size ≤ 100000) (hs : InS bs lo s R C w) (hne : br ≠ bs) (h1 : br < lo) (h2 : bs < lo) (h3 : lo ≤ w.heap.size) :
    Calls Try.prog 28 #[.pointer (some ⟨br, 0, none⟩), .int .u8 111, .pointer (some ⟨bs, 0, none⟩)] w (GPost br bs lo (okD ok (decF s b .o)) w) := by
  have HW := Lib.hid hw
  have HS := Lib.hid hs
  clear hw hs
  go_enter Try.func28, Try.ntmps28
  go_wp2_with fail
  refine (columns_r br b ok w HW.out hz).mono ?_
  rintro e w1 ⟨A, c, x, b', ok', rfl, hb', ho, hz', hrd, hfr, hr⟩
  have B1 := off_blk ho HS.out.1 (Ne.symm hne) (Ne.symm hne)
  have BR := Lib.hid hb'
  have HO := Lib.hid ho
  have HB1 := Lib.hid B1
  obtain ⟨k1, f1⟩ := blk_rules B1
  have HL := Lib.hid hrd
  have HFR := Lib.hid hfr
  clear hrd hfr
  have hP := map_post (F := fun _ => True) (f := fun y => { s with cols := y }) (hr.imp id (fun h => ⟨h.1, h.2, trivial⟩))
  have HP := Lib.hid hP
  clear hb' ho B1 hr hP
  go_wp2
  go_end0
  have hO := off_set (p := ⟨bs, 14, none⟩) (off_l HO.out) (.inr (.inl rfl)) (.slice A x.length c)
  exact ⟨{ s with cols := x }, R, (.slice A x.length c), b', ok', rfl, blk_far (p := ⟨bs, 14, none⟩) BR.out hne (.slice A x.length c), ⟨blk_set_eq HB1.out 14 (.slice A x.length c) rfl, HS.out.2.1.off hO h1 h2, ⟨A, c, rfl, HL.out.off (off_one bs 14 _ w1) (fun p hp => by have := HFR.out p hp; omega), fun p hp => by have := HFR.out p hp; omega⟩⟩, hO, hz', HP.out⟩
set_option maxRecDepth 100000 in
set_option maxHeartbeats 1000000 in
theorem get_f (br bs lo : Nat) (b : ByteArray) (ok : Bool) (s : St) (R C : Value) (w : World) (hw : RB br b ok w) (hz : b.size ≤ 100000) (hs : InS bs lo s R C w) (hne : br ≠ bs) (h1 : br < lo) (h2 : bs < lo) (h3 : lo ≤ w.heap.size) :
    Calls Try.prog 28 #[.pointer (some ⟨br, 0, none⟩), .int .u8 102, .pointer (some ⟨bs, 0, none⟩)] w (GPost br bs lo (okD ok (decF s b .f)) w) := by
  have HW := Lib.hid hw
  have HS := Lib.hid hs
  clear hw hs
  go_enter Try.func28, Try.ntmps28
  go_wp2_with fail
  refine (flag_r br b ok w HW.out hz).mono ?_
  rintro e w1 ⟨x, b', ok', rfl, hb', ho, hz', hr⟩
  have B1 := off_blk ho HS.out.1 (Ne.symm hne) (Ne.symm hne)
  have BR := Lib.hid hb'
  have HO := Lib.hid ho
  have HB1 := Lib.hid B1
  obtain ⟨k1, f1⟩ := blk_rules B1
  have hP := map_post (F := fun _ => True) (f := fun y => { s with fl := y }) hr
  have HP := Lib.hid hP
  clear hb' ho B1 hr hP
  go_wp2
  go_end0
  have hO := off_set (p := ⟨bs, 15, none⟩) (off_l HO.out) (.inr (.inl rfl)) (.bool x)
  exact ⟨{ s with fl := x }, R, C, b', ok', rfl, blk_far (p := ⟨bs, 15, none⟩) BR.out hne (.bool x), ⟨blk_set_eq HB1.out 15 (.bool x) rfl, HS.out.2.1.off hO h1 h2, HS.out.2.2.off hO h1 h2⟩, hO, hz', HP.out⟩
theorem get_any (br bs lo : Nat) (b : ByteArray) (ok : Bool) (s : St) (R C : Value) (w : World) (hw : RB br b ok w) (hz : b.size ≤ 100000) (hs : InS bs lo s R C w) (hne : br ≠ bs) (h1 : br < lo) (h2 : bs < lo) (h3 : lo ≤ w.heap.size) (x : Fld) :
    Calls Try.prog 28 #[.pointer (some ⟨br, 0, none⟩), .int .u8 ((pcode x).toNat : Int), .pointer (some ⟨bs, 0, none⟩)] w (GPost br bs lo (okD ok (decF s b x)) w) := by
  cases x
  · exact get_t br bs lo b ok s R C w hw hz hs hne h1 h2 h3
  · exact get_n br bs lo b ok s R C w hw hz hs hne h1 h2 h3
  · exact get_c br bs lo b ok s R C w hw hz hs hne h1 h2 h3
  · exact get_s br bs lo b ok s R C w hw hz hs hne h1 h2 h3
  · exact get_v br bs lo b ok s R C w hw hz hs hne h1 h2 h3
  · exact get_w br bs lo b ok s R C w hw hz hs hne h1 h2 h3
  · exact get_r br bs lo b ok s R C w hw hz hs hne h1 h2 h3
  · exact get_d br bs lo b ok s R C w hw hz hs hne h1 h2 h3
  · exact get_o br bs lo b ok s R C w hw hz hs hne h1 h2 h3
  · exact get_f br bs lo b ok s R C w hw hz hs hne h1 h2 h3
end Go.Proofs.Ytbmaeaknlpgdmaa
namespace Go.Proofs.Ytbmaeaknlpgdmaa
open Go.RowKit
set_option linter.unusedVariables false
set_option linter.unusedSimpArgs false
set_option linter.constructorNameAsVariable false
/-- What the bytes are told to be: a statement, and 0; or none, and 11. -/
def decR (b : ByteArray) : St × Int := match decS b with | some s => (s, 0) | none => (zeroSt 0, 11)
theorem decR_some {b : ByteArray} {s : St} (h : decS b = some s) : decR b = (s, 0) := by unfold decR; rw [h]
theorem decR_none {b : ByteArray} (h : decS b = none) : decR b = (zeroSt 0, 11) := by unfold decR; rw [h]
def SPost (b : ByteArray) (w : World) (e : Ending) (w' : World) : Prop :=
  ∃ A c A' d, e = .returned (.tuple #[(decR b).1.agg (.slice A (decR b).1.row.length c) (.slice A' (decR b).1.cols.length d), .int .i64 (decR b).2]) ∧ RdV w' A (decR b).1.row.length (decR b).1.row ∧ RdC w' A' (decR b).1.cols.length (decR b).1.cols ∧ Below w.heap.size w w'
theorem LS_nil {α : Type} (cs : α → List Value) (size : Nat) (w : World) (lo : Nat) : LS cs size w (.slice none 0 0) [] lo := ⟨none, 0, rfl, ⟨rfl, by simp, fun h => absurd h (by simp)⟩, fun p hp => by cases hp⟩
theorem decTo_none {s : St} {b : ByteArray} {l : List Fld} {k : Nat} (h : decTo s b (l.take k) = none) : decTo s b l = none := by
  have e : l = l.take k ++ l.drop k := (List.take_append_drop k l).symm
  rw [e, decTo, List.foldl_append]
  have h2 : (l.take k).foldl (fun r x => r.bind fun y => decF y.1 y.2 x) (some (s, b)) = none := h
  rw [h2]
  generalize l.drop k = m
  clear h h2 e
  induction m with
  | nil => rfl
  | cons x m ih => exact ih
theorem spost_none {b : ByteArray} {w w' : World} (h : decS b = none) (hb : Below w.heap.size w w') : SPost b w (.returned (.tuple #[(zeroSt 0).agg (.slice none 0 0) (.slice none 0 0), .int .i64 11])) w' := by
  unfold SPost
  rw [decR_none h]
  exact ⟨none, 0, none, 0, rfl, ⟨rfl, by show (0 : Nat) ≤ _; omega, fun h => absurd h (by show ¬ (0 : Nat) < 0; omega)⟩, ⟨rfl, by show (0 : Nat) ≤ _; omega, fun h => absurd h (by show ¬ (0 : Nat) < 0; omega)⟩, hb⟩
theorem spost_some {b : ByteArray} {s : St} {w w' : World} {A A' : Option Addr} {c d : Nat} (h : decS b = some s) (hr : RdV w' A s.row.length s.row) (hc : RdC w' A' s.cols.length s.cols) (hb : Below w.heap.size w w') :
    SPost b w (.returned (.tuple #[s.agg (.slice A s.row.length c) (.slice A' s.cols.length d), .int .i64 0])) w' := by
  unfold SPost
  rw [decR_some h]
  exact ⟨A, c, A', d, rfl, hr, hc, hb⟩
theorem arr16 {L : Array Value} (h : L.size = 16) : ∃ a b c d e f g i j k l m n o p q, L = #[a, b, c, d, e, f, g, i, j, k, l, m, n, o, p, q] := by
  obtain ⟨l⟩ := L
  match l, h with
  | [a, b, c, d, e, f, g, i, j, k, l, m, n, o, p, q], _ => exact ⟨a, b, c, d, e, f, g, i, j, k, l, m, n, o, p, q, rfl⟩
/-- A statement's sixteen cells, stored. -/
abbrev set16 (w : World) (b : Nat) (u0 u1 u2 u3 u4 u5 u6 u7 u8 u9 u10 u11 u12 u13 u14 u15 : Value) : World :=
  ((((((((((((((((w.setCell ⟨b, 0, none⟩ u0).setCell ⟨b, 1, none⟩ u1).setCell ⟨b, 2, none⟩ u2).setCell ⟨b, 3, none⟩ u3).setCell ⟨b, 4, none⟩ u4).setCell ⟨b, 5, none⟩ u5).setCell ⟨b, 6, none⟩ u6).setCell ⟨b, 7, none⟩ u7).setCell ⟨b, 8, none⟩ u8).setCell ⟨b, 9, none⟩ u9).setCell ⟨b, 10, none⟩ u10).setCell ⟨b, 11, none⟩ u11).setCell ⟨b, 12, none⟩ u12).setCell ⟨b, 13, none⟩ u13).setCell ⟨b, 14, none⟩ u14).setCell ⟨b, 15, none⟩ u15)
set_option maxRecDepth 100000 in
theorem blk_set16 {w : World} {b : Nat} {L : Array Value} {T : TypeId} (hs : L.size = 16) (h : w.heap[b]? = some (.cells L T (0, 0))) (u0 u1 u2 u3 u4 u5 u6 u7 u8 u9 u10 u11 u12 u13 u14 u15 : Value) :
    (set16 w b u0 u1 u2 u3 u4 u5 u6 u7 u8 u9 u10 u11 u12 u13 u14 u15).heap[b]? = some (.cells #[u0, u1, u2, u3, u4, u5, u6, u7, u8, u9, u10, u11, u12, u13, u14, u15] T (0, 0)) := by
  obtain ⟨c0, c1, c2, c3, c4, c5, c6, c7, c8, c9, c10, c11, c12, c13, c14, c15, rfl⟩ := arr16 hs
  have h0 := blk_set_eq (L' := #[u0, c1, c2, c3, c4, c5, c6, c7, c8, c9, c10, c11, c12, c13, c14, c15]) h 0 u0 rfl
  have h1 := blk_set_eq (L' := #[u0, u1, c2, c3, c4, c5, c6, c7, c8, c9, c10, c11, c12, c13, c14, c15]) h0 1 u1 rfl
  have h2 := blk_set_eq (L' := #[u0, u1, u2, c3, c4, c5, c6, c7, c8, c9, c10, c11, c12, c13, c14, c15]) h1 2 u2 rfl
  have h3 := blk_set_eq (L' := #[u0, u1, u2, u3, c4, c5, c6, c7, c8, c9, c10, c11, c12, c13, c14, c15]) h2 3 u3 rfl
  have h4 := blk_set_eq (L' := #[u0, u1, u2, u3, u4, c5, c6, c7, c8, c9, c10, c11, c12, c13, c14, c15]) h3 4 u4 rfl
  have h5 := blk_set_eq (L' := #[u0, u1, u2, u3, u4, u5, c6, c7, c8, c9, c10, c11, c12, c13, c14, c15]) h4 5 u5 rfl
  have h6 := blk_set_eq (L' := #[u0, u1, u2, u3, u4, u5, u6, c7, c8, c9, c10, c11, c12, c13, c14, c15]) h5 6 u6 rfl
  have h7 := blk_set_eq (L' := #[u0, u1, u2, u3, u4, u5, u6, u7, c8, c9, c10, c11, c12, c13, c14, c15]) h6 7 u7 rfl
  have h8 := blk_set_eq (L' := #[u0, u1, u2, u3, u4, u5, u6, u7, u8, c9, c10, c11, c12, c13, c14, c15]) h7 8 u8 rfl
  have h9 := blk_set_eq (L' := #[u0, u1, u2, u3, u4, u5, u6, u7, u8, u9, c10, c11, c12, c13, c14, c15]) h8 9 u9 rfl
  have h10 := blk_set_eq (L' := #[u0, u1, u2, u3, u4, u5, u6, u7, u8, u9, u10, c11, c12, c13, c14, c15]) h9 10 u10 rfl
  have h11 := blk_set_eq (L' := #[u0, u1, u2, u3, u4, u5, u6, u7, u8, u9, u10, u11, c12, c13, c14, c15]) h10 11 u11 rfl
  have h12 := blk_set_eq (L' := #[u0, u1, u2, u3, u4, u5, u6, u7, u8, u9, u10, u11, u12, c13, c14, c15]) h11 12 u12 rfl
  have h13 := blk_set_eq (L' := #[u0, u1, u2, u3, u4, u5, u6, u7, u8, u9, u10, u11, u12, u13, c14, c15]) h12 13 u13 rfl
  have h14 := blk_set_eq (L' := #[u0, u1, u2, u3, u4, u5, u6, u7, u8, u9, u10, u11, u12, u13, u14, c15]) h13 14 u14 rfl
  exact blk_set_eq (L' := #[u0, u1, u2, u3, u4, u5, u6, u7, u8, u9, u10, u11, u12, u13, u14, u15]) h14 15 u15 rfl
theorem bl_set16 {a w : World} (h : Below a.heap.size a w) {b : Nat} (hb : a.heap.size ≤ b) (u0 u1 u2 u3 u4 u5 u6 u7 u8 u9 u10 u11 u12 u13 u14 u15 : Value) :
    Below a.heap.size a (set16 w b u0 u1 u2 u3 u4 u5 u6 u7 u8 u9 u10 u11 u12 u13 u14 u15) :=
  bl_set (bl_set (bl_set (bl_set (bl_set (bl_set (bl_set (bl_set (bl_set (bl_set (bl_set (bl_set (bl_set (bl_set (bl_set (bl_set h hb _) hb _) hb _) hb _) hb _) hb _) hb _) hb _) hb _) hb _) hb _) hb _) hb _) hb _) hb _) hb _
theorem off_set16 (b : Nat) (w : World) (u0 u1 u2 u3 u4 u5 u6 u7 u8 u9 u10 u11 u12 u13 u14 u15 : Value) : Off b b w (set16 w b u0 u1 u2 u3 u4 u5 u6 u7 u8 u9 u10 u11 u12 u13 u14 u15) := by
  have s : ∀ {w1 : World} (i : Nat) (u : Value), Off b b w w1 → Off b b w (w1.setCell ⟨b, i, none⟩ u) := fun i u h => off_set h (.inl rfl) u
  exact s 15 _ (s 14 _ (s 13 _ (s 12 _ (s 11 _ (s 10 _ (s 9 _ (s 8 _ (s 7 _ (s 6 _ (s 5 _ (s 4 _ (s 3 _ (s 2 _ (s 1 _ (s 0 _ (off_refl b b w))))))))))))))))
end Go.Proofs.Ytbmaeaknlpgdmaa
