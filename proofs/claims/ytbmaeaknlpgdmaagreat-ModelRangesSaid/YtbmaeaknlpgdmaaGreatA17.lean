/- The reference's Only: just the fields that a statement's kind has. -/
import Derived.Test.YtbmaeaknlpgdmaaGreatA06
import Derived.Test.YtbmaeaknlpgdmaaGreatA05
import Derived.Test.YtbmaeaknlpgdmaaGreatA15
namespace Go.Proofs.YtbmaeaknlpgdmaaGreat
open Go.RowKit
/-- A statement of a kind, with nothing else. -/
def zeroSt (k : Int) : St := ⟨k, ⟨#[]⟩, ⟨#[]⟩, ⟨#[]⟩, ⟨#[]⟩, ⟨0, 0, 0, ⟨#[]⟩⟩, ⟨0, 0, 0, ⟨#[]⟩⟩, [], [], false⟩
/-- n with s's field. -/
def setF (s n : St) : Fld → St
  | .t => { n with t := s.t } | .n => { n with nm := s.nm } | .c => { n with c := s.c } | .s => { n with se := s.se } | .v => { n with v := s.v } | .w => { n with w := s.w }
  | .r => { n with row := s.row } | .d => { n with cols := s.cols } | .o => { n with cols := s.cols } | .f => { n with fl := s.fl }
def onlyL (s : St) (l : List Fld) : St := l.foldl (setF s) (zeroSt s.k)
def only (s : St) : St := onlyL s (fieldsF s.k)
theorem onlyL_snoc {s : St} {l : List Fld} {k : Nat} {x : Fld} (h : l[k]? = some x) : onlyL s (l.take (k + 1)) = setF s (onlyL s (l.take k)) x := by
  rw [take_snoc' h]; unfold onlyL; rw [List.foldl_append]; rfl
/-- A byte of a text, once it is known. -/
theorem ix_str (l : ByteArray) (k : Nat) (h : k < l.size) (c : UInt8) (hc : l[k] = c) (W : World) : (Instr.index 9 (.string l) (.int .i64 (k : Int))).run Tryz.prog W = .ok (.int .u8 (c.toNat : Int)) W := by
  rw [run_index_string W _ _ _ _ (by kernel_rfl)]
  subst hc
  simp [h]
/-- The byte of field k. -/
theorem rstr_at {l : List Fld} {h : ByteArray} (e : rstr l = h) {k : Nat} {x : Fld} (hx : l[k]? = some x) : ∃ hk : k < h.size, h[k] = rcode x := by
  subst e
  obtain ⟨hk, rfl⟩ := List.getElem?_eq_some_iff.1 hx
  exact ⟨by rw [rstr_size]; exact hk, rstr_get l k (by rw [rstr_size]; exact hk) hk⟩

def OnlyPost (s : St) (w : World) (e : Ending) (w' : World) : Prop :=
  ∃ P n c P' m d, e = .returned ((only s).agg (.slice P n c) (.slice P' m d)) ∧ RdV w P n (only s).row ∧ RdC w P' m (only s).cols ∧ Below w.heap.size w w'

set_option maxRecDepth 100000 in
set_option maxHeartbeats 4000000 in
theorem only_any (s : St) (A A' : Option Addr) (n c m d : Nat) (w : World) (hr : RdV w A n s.row) (hc : RdC w A' m s.cols) :
    Calls Tryz.prog 105 #[s.agg (.slice A n c) (.slice A' m d)] w (OnlyPost s w) := by
  have HR := Lib.hid hr
  have HC := Lib.hid hc
  clear hr hc
  go_enter Tryz.func105, Tryz.ntmps105
  go_wp2_with fail
  refine (has_any s.k _).mono ?_
  rintro e w1 ⟨rfl, hb1⟩
  have B0 := Lib.hid (blk_below (blk_old (blk_old (blk_new w _) _) _) hb1)
  have e1 := blk_below (blk_old (blk_new _ _) _) hb1
  have e2 := blk_below (blk_new _ _) hb1
  rw [szal] at e1
  rw [szal, szal] at e2
  have B1 := Lib.hid e1
  have B2 := Lib.hid e2
  clear e1 e2
  have HB := Lib.hid (show Below w.heap.size w w1 by (repeat (first | assumption | exact Below.refl _ _ | refine bl_drewN ?_ _ | refine bl_drew ?_ | refine bl_alloc ?_ _ | refine bl_step ?_ (by assumption))))
  clear hb1
  obtain ⟨h, hh⟩ : ∃ h, rstr (fieldsF s.k) = h := ⟨_, rfl⟩
  rw [hh]
  have HH := Lib.hid hh
  have Hl := Lib.hid (show h.size = (fieldsF s.k).length by rw [← hh, rstr_size])
  have hl5 : h.size ≤ 5 := by have := fieldsF_len s.k; rw [Hl.out]; exact this
  clear hh
  go_wp2
  go_loopw [5] (fun i wr => ∃ (k : Nat) (P : Option Addr) (n' c' : Nat) (P' : Option Addr) (m' d' : Nat), k ≤ h.size ∧ i = .int .i64 k ∧
    wr.heap[w.heap.size + 1 + 1]? = some (.cells ((onlyL s ((fieldsF s.k).take k)).row16 (.slice P n' c') (.slice P' m' d')) 37 (0, 0)) ∧
    RdV w P n' (onlyL s ((fieldsF s.k).take k)).row ∧ RdC w P' m' (onlyL s ((fieldsF s.k).take k)).cols ∧
    wr.heap[w.heap.size]? = some (.cells (s.row16 (.slice A n c) (.slice A' m d)) 37 (0, 0)) ∧
    wr.heap[w.heap.size + 1]? = some (.cells ((zeroSt 0).row16 (.slice none 0 0) (.slice none 0 0)) 37 (0, 0)) ∧ Below w.heap.size w wr) (fun i _ => h.size - (intOf i).toNat)
  case atStart => exact ⟨0, none, 0, 0, none, 0, 0, Nat.zero_le _, rfl, B2.out, ⟨rfl, by omega, fun hh => by omega⟩, ⟨rfl, by omega, fun hh => by omega⟩, B0.out, B1.out, HB.out⟩
  case round =>
    obtain ⟨k, P, n', c', P', m', d', hk, rfl, D2, E1, E2, D0, D1, hb⟩ := hrel
    have HD := Lib.hid (And.intro E1 E2)
    have hz0 := blk_lt D0
    have hz1 := blk_lt D1
    have hz2 := blk_lt D2
    obtain ⟨k0, f0⟩ := blk_rules D0
    obtain ⟨k2, f2⟩ := blk_rules D2
    have K0 := Lib.hid D0
    have K1 := Lib.hid D1
    have K2 := Lib.hid D2
    have KB := Lib.hid hb
    clear E1 E2 D0 D1 D2 hb
    by_cases hlt : k < h.size
    · have hk' : k < (fieldsF s.k).length := by rw [← Hl.out]; exact hlt
      obtain ⟨x, hx⟩ : ∃ x, (fieldsF s.k)[k]? = some x := ⟨_, List.getElem?_eq_getElem hk'⟩
      have HX := Lib.hid (onlyL_snoc (s := s) hx)
      obtain ⟨_, hch⟩ := rstr_at HH.out hx
      obtain ⟨p, hp⟩ : ∃ p, onlyL s ((fieldsF s.k).take k) = p := ⟨_, rfl⟩
      have HP := Lib.hid hp
      rw [hp] at k2
      clear hp hx hk'
      cases x with
      | t =>
        have hix := ix_str h k hlt _ hch
        clear hch
        go_wp2
        go_roundw
        case rel => exact ⟨k + 1, P, n', c', P', m', d', by omega, by go_num, by rw [HX.out, HP.out]; exact blk_set (by have := K2.out; rwa [HP.out] at this) 1 _, by rw [HX.out]; exact HD.out.1, by rw [HX.out]; exact HD.out.2, (blk_far K0.out (by dsimp only; omega) _), (blk_far K1.out (by dsimp only; omega) _), (bl_set KB.out (by dsimp only; omega) _)⟩
        case measure => simp [intOf]; omega
      | n =>
        have hix := ix_str h k hlt _ hch
        clear hch
        go_wp2
        go_roundw
        case rel => exact ⟨k + 1, P, n', c', P', m', d', by omega, by go_num, by rw [HX.out, HP.out]; exact blk_set (by have := K2.out; rwa [HP.out] at this) 2 _, by rw [HX.out]; exact HD.out.1, by rw [HX.out]; exact HD.out.2, (blk_far K0.out (by dsimp only; omega) _), (blk_far K1.out (by dsimp only; omega) _), (bl_set KB.out (by dsimp only; omega) _)⟩
        case measure => simp [intOf]; omega
      | c =>
        have hix := ix_str h k hlt _ hch
        clear hch
        go_wp2
        go_roundw
        case rel => exact ⟨k + 1, P, n', c', P', m', d', by omega, by go_num, by rw [HX.out, HP.out]; exact blk_set (by have := K2.out; rwa [HP.out] at this) 3 _, by rw [HX.out]; exact HD.out.1, by rw [HX.out]; exact HD.out.2, (blk_far K0.out (by dsimp only; omega) _), (blk_far K1.out (by dsimp only; omega) _), (bl_set KB.out (by dsimp only; omega) _)⟩
        case measure => simp [intOf]; omega
      | s =>
        have hix := ix_str h k hlt _ hch
        clear hch
        go_wp2
        go_roundw
        case rel => exact ⟨k + 1, P, n', c', P', m', d', by omega, by go_num, by rw [HX.out, HP.out]; exact blk_set (by have := K2.out; rwa [HP.out] at this) 4 _, by rw [HX.out]; exact HD.out.1, by rw [HX.out]; exact HD.out.2, (blk_far K0.out (by dsimp only; omega) _), (blk_far K1.out (by dsimp only; omega) _), (bl_set KB.out (by dsimp only; omega) _)⟩
        case measure => simp [intOf]; omega
      | v =>
        have hix := ix_str h k hlt _ hch
        clear hch
        go_wp2
        go_roundw
        case rel => exact ⟨k + 1, P, n', c', P', m', d', by omega, by go_num, by rw [HX.out, HP.out]; exact blk_set (blk_set (blk_set (blk_set (by have := K2.out; rwa [HP.out] at this) 5 _) 6 _) 7 _) 8 _, by rw [HX.out]; exact HD.out.1, by rw [HX.out]; exact HD.out.2, (blk_far (blk_far (blk_far (blk_far K0.out (by dsimp only; omega) _) (by dsimp only; omega) _) (by dsimp only; omega) _) (by dsimp only; omega) _), (blk_far (blk_far (blk_far (blk_far K1.out (by dsimp only; omega) _) (by dsimp only; omega) _) (by dsimp only; omega) _) (by dsimp only; omega) _), (bl_set (bl_set (bl_set (bl_set KB.out (by dsimp only; omega) _) (by dsimp only; omega) _) (by dsimp only; omega) _) (by dsimp only; omega) _)⟩
        case measure => simp [intOf]; omega
      | w =>
        have hix := ix_str h k hlt _ hch
        clear hch
        go_wp2
        go_roundw
        case rel => exact ⟨k + 1, P, n', c', P', m', d', by omega, by go_num, by rw [HX.out, HP.out]; exact blk_set (blk_set (blk_set (blk_set (by have := K2.out; rwa [HP.out] at this) 9 _) 10 _) 11 _) 12 _, by rw [HX.out]; exact HD.out.1, by rw [HX.out]; exact HD.out.2, (blk_far (blk_far (blk_far (blk_far K0.out (by dsimp only; omega) _) (by dsimp only; omega) _) (by dsimp only; omega) _) (by dsimp only; omega) _), (blk_far (blk_far (blk_far (blk_far K1.out (by dsimp only; omega) _) (by dsimp only; omega) _) (by dsimp only; omega) _) (by dsimp only; omega) _), (bl_set (bl_set (bl_set (bl_set KB.out (by dsimp only; omega) _) (by dsimp only; omega) _) (by dsimp only; omega) _) (by dsimp only; omega) _)⟩
        case measure => simp [intOf]; omega
      | r =>
        have hix := ix_str h k hlt _ hch
        clear hch
        go_wp2
        go_roundw
        case rel => exact ⟨k + 1, A, n, c, P', m', d', by omega, by go_num, by rw [HX.out, HP.out]; exact blk_set (by have := K2.out; rwa [HP.out] at this) 13 _, by rw [HX.out]; exact HR.out, by rw [HX.out]; exact HD.out.2, (blk_far K0.out (by dsimp only; omega) _), (blk_far K1.out (by dsimp only; omega) _), (bl_set KB.out (by dsimp only; omega) _)⟩
        case measure => simp [intOf]; omega
      | d =>
        have hix := ix_str h k hlt _ hch
        clear hch
        go_wp2
        go_roundw
        case rel => exact ⟨k + 1, P, n', c', A', m, d, by omega, by go_num, by rw [HX.out, HP.out]; exact blk_set (by have := K2.out; rwa [HP.out] at this) 14 _, by rw [HX.out]; exact HD.out.1, by rw [HX.out]; exact HC.out, (blk_far K0.out (by dsimp only; omega) _), (blk_far K1.out (by dsimp only; omega) _), (bl_set KB.out (by dsimp only; omega) _)⟩
        case measure => simp [intOf]; omega
      | o =>
        have hix := ix_str h k hlt _ hch
        clear hch
        go_wp2
        go_roundw
        case rel => exact ⟨k + 1, P, n', c', A', m, d, by omega, by go_num, by rw [HX.out, HP.out]; exact blk_set (by have := K2.out; rwa [HP.out] at this) 14 _, by rw [HX.out]; exact HD.out.1, by rw [HX.out]; exact HC.out, (blk_far K0.out (by dsimp only; omega) _), (blk_far K1.out (by dsimp only; omega) _), (bl_set KB.out (by dsimp only; omega) _)⟩
        case measure => simp [intOf]; omega
      | f =>
        have hix := ix_str h k hlt _ hch
        clear hch
        go_wp2
        go_roundw
        case rel => exact ⟨k + 1, P, n', c', P', m', d', by omega, by go_num, by rw [HX.out, HP.out]; exact blk_set (by have := K2.out; rwa [HP.out] at this) 15 _, by rw [HX.out]; exact HD.out.1, by rw [HX.out]; exact HD.out.2, (blk_far K0.out (by dsimp only; omega) _), (blk_far K1.out (by dsimp only; omega) _), (bl_set KB.out (by dsimp only; omega) _)⟩
        case measure => simp [intOf]; omega
    · obtain rfl : k = h.size := by omega
      have e : (fieldsF s.k).take h.size = fieldsF s.k := by rw [Hl.out, List.take_length]
      rw [e] at k2
      have HD2 := HD.out
      have K3 := K2.out
      rw [e] at HD2 K3
      have H2 := Lib.hid HD2
      have H3 := Lib.hid K3
      clear HD2 K3 e
      obtain ⟨p, hp⟩ : ∃ p, onlyL s (fieldsF s.k) = p := ⟨_, rfl⟩
      have HP := Lib.hid hp
      rw [hp] at k2
      clear hp
      obtain ⟨k1, f1⟩ := blk_rules K1.out
      go_wp2
      refine bodyPost_ret (results_blk (T := 37) (b := w.heap.size + 1) (cs := p.row16 (.slice P n' c') (.slice P' m' d')) rfl (fun _ => by kernel_rfl) (fun _ => by kernel_rfl) _ rfl ?_) rfl ⟨P, n', c', P', m', d', ?_, H2.out.1, H2.out.2, ?_⟩
      · have hm1 := K1.out
        simp [World.setCell, Array.getElem?_modify, hm1]
      · have e := HP.out
        unfold only
        rw [e]
      · iterate 16 refine bl_set ?_ (by dsimp only; omega) _
        exact KB.out
end Go.Proofs.YtbmaeaknlpgdmaaGreat
