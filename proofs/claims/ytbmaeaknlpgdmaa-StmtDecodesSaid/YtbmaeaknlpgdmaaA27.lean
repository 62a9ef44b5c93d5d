/- value.body: the value of a kind that bytes begin with. value.Decode: the value that bytes begin with. -/
import Derived.Test.YtbmaeaknlpgdmaaA26
import Derived.Test.YtbmaeaknlpgdmaaA07
import Derived.Test.YtbmaeaknlpgdmaaA19
namespace Go.Proofs.Ytbmaeaknlpgdmaa
open Go.RowKit
set_option linter.unusedVariables false
set_option linter.unusedSimpArgs false
set_option linter.constructorNameAsVariable false
theorem results_blk2 {P : Program} {fn : Func} {p u u' : Tmp} {ty T : TypeId} {cs : Array Value} {w : World} {b : Nat} (h : fn.results = #[.cell p ty, .tmp u, .tmp u']) (ha : ∀ w, (isAgg ty).run P w = .ok true w) (hs : ∀ w, (sizeOf ty).run P w = .ok cs.size w)
    (tmps : Array Value) (hp : tmps.getD p undef = .pointer (some ⟨b, 0, none⟩)) (hb : w.heap[b]? = some (.cells cs T (0, 0))) : (results fn tmps).run P w = .ok (.tuple #[.agg cs, tmps.getD u undef, tmps.getD u' undef]) w := by
  have hl := loadVar_blk ha hs hb
  have hp' : tmps[p]?.getD undef = .pointer (some ⟨b, 0, none⟩) := by simpa using hp
  simp only [results, h]
  simp [hp', asAddr, hl]
def BodyPost (D : Option (Vl × Nat)) (w : World) (e : Ending) (w' : World) : Prop :=
  ∃ (v : Vl) (n : Nat) (ok : Bool), e = .returned (.tuple #[v.agg, .int .i64 n, .bool ok]) ∧ Below w.heap.size w w' ∧ ((ok = true ∧ D = some (v, n)) ∨ (ok = false ∧ D = none))

set_option maxRecDepth 100000 in
set_option maxHeartbeats 1000000 in
theorem body0 (r : ByteArray) (w : World) : Calls Try.prog 101 #[.int .i64 0, .string r] w (BodyPost (bodyD 0 r) w) := by
  go_enter Try.func101, Try.ntmps101
  go_wp2
  exact bodyPost_ret (results_blk2 (b := w.heap.size) rfl (fun _ => by kernel_rfl) (fun _ => by kernel_rfl) _ rfl (blk_new w _)) rfl ⟨nov, 0, true, rfl, by (repeat (first | assumption | exact Below.refl _ _ | refine bl_drewN ?_ _ | refine bl_drew ?_ | refine bl_alloc ?_ _ | refine bl_step ?_ (by assumption))), .inl ⟨rfl, rfl⟩⟩

theorem byte_w (r : ByteArray) (h : 0 < r.size) : wrap64 (r[0].toNat : Int) = (byteAt r 0 : Int) := by
  rw [← byteAt_ h]
  have := byteAt_lt r 0
  unfold wrap64; omega
theorem numTo_small (s : ByteArray) : numTo s 2 < 65536 := by
  have h0 := byteAt_lt s 0
  have h1 := byteAt_lt s 1
  simp only [numTo]
  omega
theorem numB_2 {r : ByteArray} (h : 2 ≤ r.size) : numB (r.extract 0 2) < 65536 := by
  unfold numB
  rw [show (r.extract 0 2).size = 2 by rw [extract_sz]; omega]
  exact numTo_small _
set_option maxRecDepth 100000 in
set_option maxHeartbeats 1000000 in
theorem body1 (r : ByteArray) (w : World) : Calls Try.prog 101 #[.int .i64 1, .string r] w (BodyPost (bodyD 1 r) w) := by
  by_cases h : 0 < r.size
  · have E := Lib.hid (show bodyD 1 r = some (⟨1, (byteAt r 0 : Int), 0, ⟨#[]⟩⟩, 1) by unfold bodyD; rw [if_neg (by decide), if_pos rfl]; exact if_pos h)
    go_enter Try.func101, Try.ntmps101
    go_wp2
    exact bodyPost_ret (results_blk2 (b := w.heap.size) rfl (fun _ => by kernel_rfl) (fun _ => by kernel_rfl) _ rfl (blk_new w _)) rfl ⟨⟨1, _, 0, ⟨#[]⟩⟩, 1, true, rfl, by (repeat (first | assumption | exact Below.refl _ _ | refine bl_drewN ?_ _ | refine bl_drew ?_ | refine bl_alloc ?_ _ | refine bl_step ?_ (by assumption))), .inl ⟨rfl, by rw [E.out, byte_w r h]⟩⟩
  · have E := Lib.hid (show bodyD 1 r = none by unfold bodyD; rw [if_neg (by decide), if_pos rfl]; exact if_neg h)
    go_enter Try.func101, Try.ntmps101
    go_wp2
    exact bodyPost_ret (results_blk2 (b := w.heap.size) rfl (fun _ => by kernel_rfl) (fun _ => by kernel_rfl) _ rfl (blk_new w _)) rfl ⟨⟨1, 0, 0, ⟨#[]⟩⟩, 0, false, rfl, by (repeat (first | assumption | exact Below.refl _ _ | refine bl_drewN ?_ _ | refine bl_drew ?_ | refine bl_alloc ?_ _ | refine bl_step ?_ (by assumption))), .inr ⟨rfl, E.out⟩⟩
set_option maxRecDepth 100000 in
set_option maxHeartbeats 1000000 in
theorem body2 (r : ByteArray) (w : World) : Calls Try.prog 101 #[.int .i64 2, .string r] w (BodyPost (bodyD 2 r) w) := by
  have hn : (r.extract 0 8).size ≤ 9223372036854775807 := by rw [extract_sz]; omega
  by_cases h : 8 ≤ r.size
  · have E := Lib.hid (show bodyD 2 r = some (⟨2, i64B (numB (r.extract 0 8)), 0, ⟨#[]⟩⟩, 8) by unfold bodyD; rw [if_neg (by decide), if_neg (by decide), if_pos rfl, if_pos h])
    go_enter Try.func101, Try.ntmps101
    go_wp2_with fail
    refine (number_any _ _ hn).mono ?_
    rintro e w1 ⟨rfl, rfl⟩
    go_wp2
    exact bodyPost_ret (results_blk2 (b := w.heap.size) rfl (fun _ => by kernel_rfl) (fun _ => by kernel_rfl) _ rfl (blk_new w _)) rfl ⟨⟨2, _, 0, ⟨#[]⟩⟩, 8, true, rfl, by (repeat (first | assumption | exact Below.refl _ _ | refine bl_drewN ?_ _ | refine bl_drew ?_ | refine bl_alloc ?_ _ | refine bl_step ?_ (by assumption))), .inl ⟨rfl, E.out⟩⟩
  · have E := Lib.hid (show bodyD 2 r = none by unfold bodyD; rw [if_neg (by decide), if_neg (by decide), if_pos rfl, if_neg h])
    go_enter Try.func101, Try.ntmps101
    go_wp2
    exact bodyPost_ret (results_blk2 (b := w.heap.size) rfl (fun _ => by kernel_rfl) (fun _ => by kernel_rfl) _ rfl (blk_new w _)) rfl ⟨⟨2, 0, 0, ⟨#[]⟩⟩, 0, false, rfl, by (repeat (first | assumption | exact Below.refl _ _ | refine bl_drewN ?_ _ | refine bl_drew ?_ | refine bl_alloc ?_ _ | refine bl_step ?_ (by assumption))), .inr ⟨rfl, E.out⟩⟩
set_option maxRecDepth 100000 in
set_option maxHeartbeats 1000000 in
theorem body3 (r : ByteArray) (w : World) : Calls Try.prog 101 #[.int .i64 3, .string r] w (BodyPost (bodyD 3 r) w) := by
  have hn : (r.extract 0 8).size ≤ 9223372036854775807 := by rw [extract_sz]; omega
  by_cases h : 8 ≤ r.size
  · have E := Lib.hid (show bodyD 3 r = (fromF (numB (r.extract 0 8))).map (fun f => (⟨3, 0, f, ⟨#[]⟩⟩, 8)) by unfold bodyD; rw [if_neg (by decide), if_neg (by decide), if_neg (by decide), if_pos rfl, if_pos h])
    have hu := numB_lt (r.extract 0 8)
    go_enter Try.func101, Try.ntmps101
    go_wp2_with fail
    refine (number_any _ _ hn).mono ?_
    rintro e w1 ⟨rfl, rfl⟩
    go_wp2_with fail
    refine (from_any _ hu _).mono ?_
    rintro e w1 ⟨rfl, rfl⟩
    cases hf : fromF (numB (r.extract 0 8)) with
    | none =>
      rw [hf] at E
      go_wp2
      exact bodyPost_ret (results_blk2 (b := w.heap.size) rfl (fun _ => by kernel_rfl) (fun _ => by kernel_rfl) _ rfl (blk_new w _)) rfl ⟨⟨3, 0, _, ⟨#[]⟩⟩, 8, false, rfl, by (repeat (first | assumption | exact Below.refl _ _ | refine bl_drewN ?_ _ | refine bl_drew ?_ | refine bl_alloc ?_ _ | refine bl_step ?_ (by assumption))), .inr ⟨rfl, E.out⟩⟩
    | some f =>
      rw [hf] at E
      go_wp2
      exact bodyPost_ret (results_blk2 (b := w.heap.size) rfl (fun _ => by kernel_rfl) (fun _ => by kernel_rfl) _ rfl (blk_new w _)) rfl ⟨⟨3, 0, f, ⟨#[]⟩⟩, 8, true, rfl, by (repeat (first | assumption | exact Below.refl _ _ | refine bl_drewN ?_ _ | refine bl_drew ?_ | refine bl_alloc ?_ _ | refine bl_step ?_ (by assumption))), .inl ⟨rfl, E.out⟩⟩
  · have E := Lib.hid (show bodyD 3 r = none by unfold bodyD; rw [if_neg (by decide), if_neg (by decide), if_neg (by decide), if_pos rfl, if_neg h])
    go_enter Try.func101, Try.ntmps101
    go_wp2
    exact bodyPost_ret (results_blk2 (b := w.heap.size) rfl (fun _ => by kernel_rfl) (fun _ => by kernel_rfl) _ rfl (blk_new w _)) rfl ⟨⟨3, 0, 0, ⟨#[]⟩⟩, 0, false, rfl, by (repeat (first | assumption | exact Below.refl _ _ | refine bl_drewN ?_ _ | refine bl_drew ?_ | refine bl_alloc ?_ _ | refine bl_step ?_ (by assumption))), .inr ⟨rfl, E.out⟩⟩
set_option maxRecDepth 100000 in
set_option maxHeartbeats 1000000 in
theorem body4 (r : ByteArray) (w : World) (hz : r.size ≤ 100000) : Calls Try.prog 101 #[.int .i64 4, .string r] w (BodyPost (bodyD 4 r) w) := by
  have hn : (r.extract 0 2).size ≤ 9223372036854775807 := by rw [extract_sz]; omega
  by_cases h : 2 ≤ r.size
  · obtain ⟨n, en⟩ : ∃ n, numB (r.extract 0 2) = n := ⟨_, rfl⟩
    have hl := numB_2 h
    have E := Lib.hid (show bodyD 4 r = if 2 ≤ r.size ∧ n ≤ r.size - 2 then some (⟨4, 0, 0, r.extract 2 (2 + n)⟩, 2 + n) else none by unfold bodyD; rw [if_neg (by decide), if_neg (by decide), if_neg (by decide), if_neg (by decide), if_pos rfl, en])
    rw [en] at hl
    have hw : wrap64 (n : Int) = n := by unfold wrap64; omega
    have HN := Lib.hid en
    clear en
    by_cases h2 : n ≤ r.size - 2
    · have E' := Lib.hid (E.out.trans (if_pos ⟨h, h2⟩))
      go_enter Try.func101, Try.ntmps101
      go_wp2_with fail
      refine (number_any _ _ hn).mono ?_
      rintro e w1 ⟨rfl, rfl⟩
      rw [HN.out]
      go_wp2
      exact bodyPost_ret (results_blk2 (b := w.heap.size) rfl (fun _ => by kernel_rfl) (fun _ => by kernel_rfl) _ rfl (blk_new w _)) rfl ⟨⟨4, 0, 0, _⟩, 2 + n, true, rfl, by (repeat (first | assumption | exact Below.refl _ _ | refine bl_drewN ?_ _ | refine bl_drew ?_ | refine bl_alloc ?_ _ | refine bl_step ?_ (by assumption))), .inl ⟨rfl, E'.out⟩⟩
    · have E' := Lib.hid (E.out.trans (if_neg (fun h3 => h2 h3.2)))
      go_enter Try.func101, Try.ntmps101
      go_wp2_with fail
      refine (number_any _ _ hn).mono ?_
      rintro e w1 ⟨rfl, rfl⟩
      rw [HN.out]
      go_wp2
      exact bodyPost_ret (results_blk2 (b := w.heap.size) rfl (fun _ => by kernel_rfl) (fun _ => by kernel_rfl) _ rfl (blk_new w _)) rfl ⟨⟨4, 0, 0, ⟨#[]⟩⟩, 0, false, rfl, by (repeat (first | assumption | exact Below.refl _ _ | refine bl_drewN ?_ _ | refine bl_drew ?_ | refine bl_alloc ?_ _ | refine bl_step ?_ (by assumption))), .inr ⟨rfl, E'.out⟩⟩
  · have E := Lib.hid (show bodyD 4 r = none by unfold bodyD; rw [if_neg (by decide), if_neg (by decide), if_neg (by decide), if_neg (by decide), if_pos rfl, if_neg (fun h3 => h h3.1)])
    go_enter Try.func101, Try.ntmps101
    go_wp2
    exact bodyPost_ret (results_blk2 (b := w.heap.size) rfl (fun _ => by kernel_rfl) (fun _ => by kernel_rfl) _ rfl (blk_new w _)) rfl ⟨⟨4, 0, 0, ⟨#[]⟩⟩, 0, false, rfl, by (repeat (first | assumption | exact Below.refl _ _ | refine bl_drewN ?_ _ | refine bl_drew ?_ | refine bl_alloc ?_ _ | refine bl_step ?_ (by assumption))), .inr ⟨rfl, E.out⟩⟩
set_option maxRecDepth 100000 in
set_option maxHeartbeats 1000000 in
theorem body5 (k : Int) (r : ByteArray) (w : World) (hk : k < 0 ∨ 5 ≤ k) : Calls Try.prog 101 #[.int .i64 k, .string r] w (BodyPost (bodyD k r) w) := by
  have E := Lib.hid (show bodyD k r = none by unfold bodyD; rw [if_neg (by omega), if_neg (by omega), if_neg (by omega), if_neg (by omega), if_neg (by omega)])
  rcases hk with hk | hk
  all_goals
    go_enter Try.func101, Try.ntmps101
    go_wp2
    exact bodyPost_ret (results_blk2 (b := w.heap.size) rfl (fun _ => by kernel_rfl) (fun _ => by kernel_rfl) _ rfl (blk_new w _)) rfl ⟨⟨k, 0, 0, ⟨#[]⟩⟩, 0, false, rfl, by (repeat (first | assumption | exact Below.refl _ _ | refine bl_drewN ?_ _ | refine bl_drew ?_ | refine bl_alloc ?_ _ | refine bl_step ?_ (by assumption))), .inr ⟨rfl, E.out⟩⟩
theorem body_any (k : Int) (r : ByteArray) (w : World) (hz : r.size ≤ 100000) : Calls Try.prog 101 #[.int .i64 k, .string r] w (BodyPost (bodyD k r) w) := by
  by_cases h : k < 0 ∨ 5 ≤ k
  · exact body5 k r w h
  · rcases (show k = 0 ∨ k = 1 ∨ k = 2 ∨ k = 3 ∨ k = 4 by omega) with rfl | rfl | rfl | rfl | rfl
    · exact body0 r w
    · exact body1 r w
    · exact body2 r w
    · exact body3 r w
    · exact body4 r w hz
end Go.Proofs.Ytbmaeaknlpgdmaa
namespace Go.Proofs.Ytbmaeaknlpgdmaa
open Go.RowKit
set_option linter.unusedVariables false
set_option linter.unusedSimpArgs false
set_option linter.constructorNameAsVariable false
theorem i64_wrap (n : Int) : IntKind.i64.wrap n = wrap64 n := by rw [IntKind.wrap_i64]; unfold wrap64; omega
theorem arr4 {L : Array Value} (h : L.size = 4) : ∃ a b c d, L = #[a, b, c, d] := by
  obtain ⟨l⟩ := L
  match l, h with
  | [a, b, c, d], _ => exact ⟨a, b, c, d, rfl⟩
theorem blk_set4 {w : World} {b : Nat} {L : Array Value} {T : TypeId} (hs : L.size = 4) (h : w.heap[b]? = some (.cells L T (0, 0))) (u0 u1 u2 u3 : Value) :
    ((((w.setCell ⟨b, 0, none⟩ u0).setCell ⟨b, 1, none⟩ u1).setCell ⟨b, 2, none⟩ u2).setCell ⟨b, 3, none⟩ u3).heap[b]? = some (.cells #[u0, u1, u2, u3] T (0, 0)) := by
  obtain ⟨c0, c1, c2, c3, rfl⟩ := arr4 hs
  exact blk_set_eq (blk_set_eq (blk_set_eq (blk_set_eq h 0 u0 rfl) 1 u1 rfl) 2 u2 rfl) 3 u3 rfl
theorem bl_set4 {a w : World} (h : Below a.heap.size a w) {b : Nat} (hb : a.heap.size ≤ b) (u0 u1 u2 u3 : Value) :
    Below a.heap.size a ((((w.setCell ⟨b, 0, none⟩ u0).setCell ⟨b, 1, none⟩ u1).setCell ⟨b, 2, none⟩ u2).setCell ⟨b, 3, none⟩ u3) := bl_set (bl_set (bl_set (bl_set h hb _) hb _) hb _) hb _
set_option maxRecDepth 100000 in
set_option maxHeartbeats 1000000 in
theorem vdec_any (r : ByteArray) (w : World) (hz : r.size ≤ 100000) : Calls Try.prog 86 #[.string r, .int .i64 0] w (BodyPost (decV r) w) := by
  by_cases h : 0 < r.size
  · have E := Lib.hid (show decV r = (bodyD (byteAt r 0) (r.extract 1 r.size)).bind (fun x => if goodV x.1 then some (x.1, x.2 + 1) else none) by unfold decV; rw [if_neg (by omega)])
    have hb := byte_w r h
    have hl := byteAt_lt r 0
    have hne : ¬ r = ByteArray.empty := by rintro rfl; exact absurd h (by decide)
    have hi1 : (1 : Int) ≤ (r.size : Int) := by omega
    have hi0 : (0 : Int) < (r.size : Int) := by omega
    go_enter Try.func86, Try.ntmps86
    go_wp2_with fail
    have hN := Lib.hid (show ((w.alloc (.cells #[.int .i64 0, .int .i64 0, .float .f64 0, .string ⟨#[]⟩] 24)).drew).heap[w.heap.size]? = some (.cells #[.int .i64 0, .int .i64 0, .float .f64 0, .string ⟨#[]⟩] 24 (0, 0)) from blk_new w _)
    have hB := Lib.hid (show Below w.heap.size w (w.alloc (.cells #[.int .i64 0, .int .i64 0, .float .f64 0, .string ⟨#[]⟩] 24)).drew by (repeat (first | assumption | exact Below.refl _ _ | refine bl_drewN ?_ _ | refine bl_drew ?_ | refine bl_alloc ?_ _ | refine bl_step ?_ (by assumption))))
    refine wp_region_held_drew (S := fun _ => True) (by kernel_rfl) trivial (fun hHeld => ?_)
    simp only [List.size_toArray, List.length_cons, List.length_nil]
    (refine held_take (i := 0) (v := ?_) rfl (by kernel_rfl) (by kernel_rfl) (by kernel_rfl) (fun _ _ _ h => h) (by assumption) (by rfl) ?_ ?_; rotate_left; (focus (intro w hSw; (try dsimp only at hSw); go_simp; try with_reducible rfl)); (try simp only [Act.put, List.setIfInBounds_toArray, List.set_cons_zero, List.set_cons_succ]))
    (refine held_take (i := 1) (v := ?_) rfl (by kernel_rfl) (by kernel_rfl) (by kernel_rfl) (fun _ _ _ h => h) (by assumption) (by rfl) ?_ ?_; rotate_left; (focus (intro w hSw; (try dsimp only at hSw); go_simp; try with_reducible rfl)); (try simp only [Act.put, List.setIfInBounds_toArray, List.set_cons_zero, List.set_cons_succ]))
    (refine held_take (i := 2) (v := ?_) rfl (by kernel_rfl) (by kernel_rfl) (by kernel_rfl) (fun _ _ _ h => h) (by assumption) (by rfl) ?_ ?_; rotate_left; (focus (intro w hSw; (try dsimp only at hSw); go_simp; try with_reducible rfl)); (try simp only [Act.put, List.setIfInBounds_toArray, List.set_cons_zero, List.set_cons_succ]))
    (refine held_take (i := 3) (v := ?_) rfl (by kernel_rfl) (by kernel_rfl) (by kernel_rfl) (fun _ _ _ h => h) (by assumption) (by rfl) ?_ ?_; rotate_left; (focus (intro w hSw; (try dsimp only at hSw); go_simp; try with_reducible rfl)); (try simp only [Act.put, List.setIfInBounds_toArray, List.set_cons_zero, List.set_cons_succ]))
    (refine held_take (i := 4) (v := ?_) rfl (by kernel_rfl) (by kernel_rfl) (by kernel_rfl) (fun _ _ _ h => h) (by assumption) (by rfl) ?_ ?_; rotate_left; (focus (intro w hSw; (try dsimp only at hSw); go_simp; try with_reducible rfl)); (try simp only [Act.put, List.setIfInBounds_toArray, List.set_cons_zero, List.set_cons_succ]))
    refine wpAnyH_ready (rs := [5]) (by kernel_rfl) (by simp) ?_
    refine held_step (i := 5) rfl (fun K hK => ?_) AllReadyH.nil
    go_simp
    refine (body_any _ _ _ (by rw [extract_sz]; omega)).mono ?_
    rintro e w1 ⟨v, m, ok, rfl, hb, hr⟩
    obtain ⟨k1, f1⟩ := blk_rules (blk_below hN.out hb)
    have B1 := Lib.hid (blk_below hN.out hb)
    have hB1 := Lib.hid (bl_step hB.out hb)
    have hz1 := blk_lt B1.out
    clear hb
    refine hK.out _ _ trivial (fun hHeld => ?_)
    clear hK K
    (try simp only [Act.put, List.setIfInBounds_toArray, List.set_cons_zero, List.set_cons_succ])
    (refine held_take (i := 6) (v := ?_) rfl (by kernel_rfl) (by kernel_rfl) (by kernel_rfl) (fun _ _ _ h => h) (by assumption) (by rfl) ?_ ?_; rotate_left; (focus (intro w hSw; (try dsimp only at hSw); go_simp; try with_reducible rfl)); (try simp only [Act.put, List.setIfInBounds_toArray, List.set_cons_zero, List.set_cons_succ]))
    (refine held_take (i := 7) (v := ?_) rfl (by kernel_rfl) (by kernel_rfl) (by kernel_rfl) (fun _ _ _ h => h) (by assumption) (by rfl) ?_ ?_; rotate_left; (focus (intro w hSw; (try dsimp only at hSw); go_simp; try with_reducible rfl)); (try simp only [Act.put, List.setIfInBounds_toArray, List.set_cons_zero, List.set_cons_succ]))
    (refine held_take (i := 8) (v := ?_) rfl (by kernel_rfl) (by kernel_rfl) (by kernel_rfl) (fun _ _ _ h => h) (by assumption) (by rfl) ?_ ?_; rotate_left; (focus (intro w hSw; (try dsimp only at hSw); go_simp; try with_reducible rfl)); (try simp only [Act.put, List.setIfInBounds_toArray, List.set_cons_zero, List.set_cons_succ]))
    (refine held_take (i := 9) (v := ?_) rfl (by kernel_rfl) (by kernel_rfl) (by kernel_rfl) (fun _ _ _ h => h) (by assumption) (by rfl) ?_ ?_; rotate_left; (focus (intro w hSw; (try dsimp only at hSw); go_simp; try with_reducible rfl)); (try simp only [Act.put, List.setIfInBounds_toArray, List.set_cons_zero, List.set_cons_succ]))
    refine wpAnyH_ready (rs := [10]) (by kernel_rfl) (by simp) ?_
    refine held_step (i := 10) rfl (fun K hK => ?_) AllReadyH.nil
    go_simp
    refine hK.out _ _ trivial (fun hHeld => ?_)
    clear hK K
    (try simp only [Act.put, List.setIfInBounds_toArray, List.set_cons_zero, List.set_cons_succ])
    (refine held_take (i := 11) (v := ?_) rfl (by kernel_rfl) (by kernel_rfl) (by kernel_rfl) (fun _ _ _ h => h) (by assumption) (by rfl) ?_ ?_; rotate_left; (focus (intro w hSw; (try dsimp only at hSw); go_simp; try with_reducible rfl)); (try simp only [Act.put, List.setIfInBounds_toArray, List.set_cons_zero, List.set_cons_succ]))
    (refine held_take (i := 12) (v := ?_) rfl (by kernel_rfl) (by kernel_rfl) (by kernel_rfl) (fun _ _ _ h => h) (by assumption) (by rfl) ?_ ?_; rotate_left; (focus (intro w hSw; (try dsimp only at hSw); go_simp; try with_reducible rfl)); (try simp only [Act.put, List.setIfInBounds_toArray, List.set_cons_zero, List.set_cons_succ]))
    refine wpAnyH_done (by kernel_rfl) ?_ _
    have P2 := blk_set4 rfl B1.out (.int .i64 v.k) (.int .i64 v.n) (.float .f64 v.f) (.string v.s)
    have Q2 := bl_set4 hB1.out (Nat.le_refl _) (.int .i64 v.k) (.int .i64 v.n) (.float .f64 v.f) (.string v.s)
    generalize ((((w1.setCell ⟨w.heap.size, 0, none⟩ (.int .i64 v.k)).setCell ⟨w.heap.size, 1, none⟩ (.int .i64 v.n)).setCell ⟨w.heap.size, 2, none⟩ (.float .f64 v.f)).setCell ⟨w.heap.size, 3, none⟩ (.string v.s)) = w2 at P2 Q2 ⊢
    have B2 := Lib.hid P2
    have hB2 := Lib.hid Q2
    obtain ⟨k2, f2⟩ := blk_rules P2
    clear P2 Q2 k1 f1 hz1 hHeld hN hB B1 hB1 hne hi1 hi0
    replace hr : (ok = true ∧ bodyD (byteAt r 0 : Int) (r.extract 1 r.size) = some (v, m)) ∨ (ok = false ∧ bodyD (byteAt r 0 : Int) (r.extract 1 r.size) = none) := by rw [← hb, ← i64_wrap]; exact hr
    rcases hr with ⟨rfl, hr⟩ | ⟨rfl, hr⟩
    · cases hg : goodV v with
      | true =>
        have E2 := Lib.hid (show decV r = some (v, m + 1) by rw [E.out, hr]; simp [hg])
        have hm : m ≤ 100000 := by have := bodyD_size hr; rw [extract_sz] at this; have h2 : m ≤ min r.size r.size - 1 := this; omega
        have HG := Lib.hid hg
        clear hg hr E
        go_wp2_with fail
        refine (good_any v _).mono ?_
        rintro e w3 ⟨rfl, hb3⟩
        have B3 := Lib.hid (blk_below B2.out hb3)
        have hB3 := Lib.hid (bl_step hB2.out hb3)
        obtain ⟨k3, f3⟩ := blk_rules B3.out
        clear k2 f2 hb3
        rw [HG.out]
        go_wp2
        exact bodyPost_ret (results_blk2 (b := w.heap.size) rfl (fun _ => by kernel_rfl) (fun _ => by kernel_rfl) _ rfl (blk_set4 rfl B3.out _ _ _ _)) rfl ⟨v, m + 1, true, rfl, bl_set4 hB3.out (Nat.le_refl _) _ _ _ _, .inl ⟨rfl, E2.out⟩⟩
      | false =>
        have E2 := Lib.hid (show decV r = none by rw [E.out, hr]; simp [hg])
        have HG := Lib.hid hg
        clear hg hr E
        go_wp2_with fail
        refine (good_any v _).mono ?_
        rintro e w3 ⟨rfl, hb3⟩
        have B3 := Lib.hid (blk_below B2.out hb3)
        have hB3 := Lib.hid (bl_step hB2.out hb3)
        obtain ⟨k3, f3⟩ := blk_rules B3.out
        clear k2 f2 hb3
        rw [HG.out]
        go_wp2
        exact bodyPost_ret (results_blk2 (b := w.heap.size) rfl (fun _ => by kernel_rfl) (fun _ => by kernel_rfl) _ rfl (blk_set4 rfl B3.out _ _ _ _)) rfl ⟨nov, 0, false, rfl, bl_set4 hB3.out (Nat.le_refl _) _ _ _ _, .inr ⟨rfl, E2.out⟩⟩
    · have E2 := Lib.hid (show decV r = none by rw [E.out, hr]; rfl)
      clear hr E
      go_wp2
      exact bodyPost_ret (results_blk2 (b := w.heap.size) rfl (fun _ => by kernel_rfl) (fun _ => by kernel_rfl) _ rfl (blk_set4 rfl B2.out _ _ _ _)) rfl ⟨nov, 0, false, rfl, bl_set4 hB2.out (Nat.le_refl _) _ _ _ _, .inr ⟨rfl, E2.out⟩⟩
  · have he : r = ByteArray.empty := by
      apply ByteArray.ext; apply Array.eq_empty_of_size_eq_zero; exact (by omega : r.size = 0)
    subst he
    have E := Lib.hid (show decV ByteArray.empty = none by decide)
    clear h
    go_enter Try.func86, Try.ntmps86
    go_wp2
    exact bodyPost_ret (results_blk2 (b := w.heap.size) rfl (fun _ => by kernel_rfl) (fun _ => by kernel_rfl) _ rfl (blk_new w _)) rfl ⟨nov, 0, false, rfl, by (repeat (first | assumption | exact Below.refl _ _ | refine bl_drewN ?_ _ | refine bl_drew ?_ | refine bl_alloc ?_ _ | refine bl_step ?_ (by assumption))), .inr ⟨rfl, E.out⟩⟩
end Go.Proofs.Ytbmaeaknlpgdmaa
