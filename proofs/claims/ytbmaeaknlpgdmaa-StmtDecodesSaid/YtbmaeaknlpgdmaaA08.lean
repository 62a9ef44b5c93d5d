/- Lemmas on what the functions under this seat compute. -/
import Derived.Test.YtbmaeaknlpgdmaaA07
namespace Go.Proofs.Ytbmaeaknlpgdmaa
open Go.RowKit
theorem Try.uVals : Try.prog.underlying 25 = some (.slice 24) := by kernel_rfl
theorem Try.uCols : Try.prog.underlying 26 = some (.slice 80) := by kernel_rfl
theorem Try.iVal : (Try.prog.info? 24).map (fun i => (i.zero, i.size, i.bytes)) = some (some (.agg #[.int .i64 0, .int .i64 0, .float .f64 0, .string ⟨#[]⟩]), 4, 40) := by kernel_rfl
theorem Try.iCol : (Try.prog.info? 80).map (fun i => (i.zero, i.size, i.bytes)) = some (some (.agg #[.string ⟨#[]⟩, .int .i64 0, .bool false, .int .i64 0, .int .i64 0, .float .f64 0, .string ⟨#[]⟩]), 7, 72) := by kernel_rfl

def CopyPost (s : St) (n m : Nat) (w : World) (e : Ending) (w' : World) : Prop :=
  ∃ A c A' c', e = .returned (s.agg (.slice A n c) (.slice A' m c')) ∧ RdV w' A n s.row ∧ RdC w' A' m s.cols ∧ Below w.heap.size w w'

set_option maxRecDepth 100000 in
set_option maxHeartbeats 4000000 in
theorem copySt (s : St) (A A' : Option Addr) (n c m d : Nat) (w : World) (hr : RdV w A n s.row) (hc : RdC w A' m s.cols) (hn : n ≤ 50) (hm : m ≤ 50) :
    Calls Try.prog 10 #[s.agg (.slice A n c) (.slice A' m d)] w (CopyPost s n m w) := by
  have HR := Lib.hid hr
  have HC := Lib.hid hc
  clear hr hc
  go_enter Try.func10, Try.ntmps10
  have hW : Below w.heap.size w ((w.alloc (.cells #[.int .i64 s.k, .string s.t, .string s.nm, .string s.c, .string s.se, .int .i64 s.v.k, .int .i64 s.v.n, .float .f64 s.v.f, .string s.v.s, .int .i64 s.w.k, .int .i64 s.w.n, .float .f64 s.w.f, .string s.w.s, .slice A n c, .slice A' m d, .bool s.fl] 28)).alloc (.cells #[.int .i64 0, .string ⟨#[]⟩, .string ⟨#[]⟩, .string ⟨#[]⟩, .string ⟨#[]⟩, .int .i64 0, .int .i64 0, .float .f64 0, .string ⟨#[]⟩, .int .i64 0, .int .i64 0, .float .f64 0, .string ⟨#[]⟩, .slice none 0 0, .slice none 0 0, .bool false] 28)) := by (repeat (first | assumption | exact Below.refl _ _ | refine bl_drewN ?_ _ | refine bl_drew ?_ | refine bl_alloc ?_ _ | refine bl_step ?_ (by assumption)))
  have P0 : ((w.alloc (.cells #[.int .i64 s.k, .string s.t, .string s.nm, .string s.c, .string s.se, .int .i64 s.v.k, .int .i64 s.v.n, .float .f64 s.v.f, .string s.v.s, .int .i64 s.w.k, .int .i64 s.w.n, .float .f64 s.w.f, .string s.w.s, .slice A n c, .slice A' m d, .bool s.fl] 28)).alloc (.cells #[.int .i64 0, .string ⟨#[]⟩, .string ⟨#[]⟩, .string ⟨#[]⟩, .string ⟨#[]⟩, .int .i64 0, .int .i64 0, .float .f64 0, .string ⟨#[]⟩, .int .i64 0, .int .i64 0, .float .f64 0, .string ⟨#[]⟩, .slice none 0 0, .slice none 0 0, .bool false] 28)).heap[w.heap.size]? = some (.cells #[.int .i64 s.k, .string s.t, .string s.nm, .string s.c, .string s.se, .int .i64 s.v.k, .int .i64 s.v.n, .float .f64 s.v.f, .string s.v.s, .int .i64 s.w.k, .int .i64 s.w.n, .float .f64 s.w.f, .string s.w.s, .slice A n c, .slice A' m d, .bool s.fl] 28 (0, 0)) := blk_old (blk_new w _) _
  have P1 : ((w.alloc (.cells #[.int .i64 s.k, .string s.t, .string s.nm, .string s.c, .string s.se, .int .i64 s.v.k, .int .i64 s.v.n, .float .f64 s.v.f, .string s.v.s, .int .i64 s.w.k, .int .i64 s.w.n, .float .f64 s.w.f, .string s.w.s, .slice A n c, .slice A' m d, .bool s.fl] 28)).alloc (.cells #[.int .i64 0, .string ⟨#[]⟩, .string ⟨#[]⟩, .string ⟨#[]⟩, .string ⟨#[]⟩, .int .i64 0, .int .i64 0, .float .f64 0, .string ⟨#[]⟩, .int .i64 0, .int .i64 0, .float .f64 0, .string ⟨#[]⟩, .slice none 0 0, .slice none 0 0, .bool false] 28)).heap[w.heap.size + 1]? = some (.cells #[.int .i64 0, .string ⟨#[]⟩, .string ⟨#[]⟩, .string ⟨#[]⟩, .string ⟨#[]⟩, .int .i64 0, .int .i64 0, .float .f64 0, .string ⟨#[]⟩, .int .i64 0, .int .i64 0, .float .f64 0, .string ⟨#[]⟩, .slice none 0 0, .slice none 0 0, .bool false] 28 (0, 0)) := by
    have h := blk_new (w.alloc (.cells #[.int .i64 s.k, .string s.t, .string s.nm, .string s.c, .string s.se, .int .i64 s.v.k, .int .i64 s.v.n, .float .f64 s.v.f, .string s.v.s, .int .i64 s.w.k, .int .i64 s.w.n, .float .f64 s.w.f, .string s.w.s, .slice A n c, .slice A' m d, .bool s.fl] 28)) (.cells #[.int .i64 0, .string ⟨#[]⟩, .string ⟨#[]⟩, .string ⟨#[]⟩, .string ⟨#[]⟩, .int .i64 0, .int .i64 0, .float .f64 0, .string ⟨#[]⟩, .int .i64 0, .int .i64 0, .float .f64 0, .string ⟨#[]⟩, .slice none 0 0, .slice none 0 0, .bool false] 28)
    rwa [show (w.alloc (.cells #[.int .i64 s.k, .string s.t, .string s.nm, .string s.c, .string s.se, .int .i64 s.v.k, .int .i64 s.v.n, .float .f64 s.v.f, .string s.v.s, .int .i64 s.w.k, .int .i64 s.w.n, .float .f64 s.w.f, .string s.w.s, .slice A n c, .slice A' m d, .bool s.fl] 28)).heap.size = w.heap.size + 1 by simp] at h
  have Q0 := Lib.hid P0
  have Q1 := Lib.hid P1
  clear P0 P1
  go_wp2_with (at_builtin; go_loud (refine wp_app (cs := Vl.cs) (size := 4) vl_len (by omega) vl_one rfl (.tmp 3) (.tmp 5) _ rfl (w.heap.size + 2) 24 _ 40 Try.uVals Try.iVal rfl (.slice (some ⟨w.heap.size + 2, 0, none⟩) 0 0) [] rfl ?_ A n c s.row rfl (HR.out.keep (bl_alloc hW _)) (by simp <;> omega) (by simp <;> omega) (by simp) ?_))
  · exact own_empty (by simp) (by simp)
  intro A1 c1 w1 hown1 hg1 hat1
  have hz1 : w.heap.size + 1 < w1.heap.size := by have := hg1.size; simp at this; omega
  have hz1' : w.heap.size < w1.heap.size := by omega
  have B0 := blk_grown (blk_old Q0.out _) hg1 (by simp [Value.ownBlock] <;> omega)
  have B1 := blk_grown (blk_old Q1.out _) hg1 (by simp [Value.ownBlock] <;> omega)
  have hb1 : Below w.heap.size w w1 := below_own (bl_alloc hW _) hg1 (fun k hk => by simp [Value.ownBlock] at hk; omega)
  obtain ⟨k0, f0⟩ := blk_rules B0
  obtain ⟨k1, f1⟩ := blk_rules B1
  have hne1 : (Value.slice A1 n c1).ownBlock ≠ some w.heap.size := by
    rcases hat1 with h | h <;> rw [h] <;> simp [Value.ownBlock] <;> omega
  have hbs : Below w.heap.size w (w1.setCell ⟨w.heap.size, 13, none⟩ (.slice A1 n c1)) := bl_set hb1 (Nat.le_refl _) _
  have hown2 : Own Vl.cs 4 24 (w1.setCell ⟨w.heap.size, 13, none⟩ (.slice A1 n c1)) (w.heap.size + 2) (.slice A1 n c1) s.row := hown1.set_ (p := ⟨w.heap.size, 13, none⟩) hne1 _
  have hsz2 : (w1.setCell ⟨w.heap.size, 13, none⟩ (.slice A1 n c1)).heap.size = w1.heap.size := by simp [World.setCell]
  have C0 : (w1.setCell ⟨w.heap.size, 13, none⟩ (.slice A1 n c1)).heap[w.heap.size]? = some (.cells #[.int .i64 s.k, .string s.t, .string s.nm, .string s.c, .string s.se, .int .i64 s.v.k, .int .i64 s.v.n, .float .f64 s.v.f, .string s.v.s, .int .i64 s.w.k, .int .i64 s.w.n, .float .f64 s.w.f, .string s.w.s, .slice A1 n c1, .slice A' m d, .bool s.fl] 28 (0, 0)) := blk_set B0 13 _
  have C1 : (w1.setCell ⟨w.heap.size, 13, none⟩ (.slice A1 n c1)).heap[w.heap.size + 1]? = some (.cells #[.int .i64 0, .string ⟨#[]⟩, .string ⟨#[]⟩, .string ⟨#[]⟩, .string ⟨#[]⟩, .int .i64 0, .int .i64 0, .float .f64 0, .string ⟨#[]⟩, .int .i64 0, .int .i64 0, .float .f64 0, .string ⟨#[]⟩, .slice none 0 0, .slice none 0 0, .bool false] 28 (0, 0)) := blk_far B1 (by simp) _
  have D0 := Lib.hid C0
  have D1 := Lib.hid C1
  have K0 := Lib.hid hsz2
  have K1 := Lib.hid hat1
  have K2 := Lib.hid hown2
  clear B0 B1 C0 C1 hsz2 hat1 hown1 hown2 hg1
  go_wp2_with (at_builtin; go_loud (refine wp_app (cs := Cl.cs) (size := 7) cl_len (by omega) cl_one rfl (.tmp 8) (.tmp 10) _ rfl (w.heap.size + 2) 80 _ 72 Try.uCols Try.iCol rfl (.slice (some ⟨w1.heap.size, 0, none⟩) 0 0) [] rfl ?_ A' m d s.cols rfl (HC.out.keep (bl_alloc hbs _)) (by simp <;> omega) (by simp <;> omega) (by simp <;> omega) ?_))
  · exact own_empty K0.out (by have := K0.out; omega)
  intro A2 c2 w2 hown3 hg2 hat2
  have hz2 : w.heap.size + 1 < w2.heap.size := by have := hg2.size; simp at this; omega
  have hz2' : w.heap.size < w2.heap.size := by omega
  have B0 := blk_grown (blk_old D0.out _) hg2 (by simp [Value.ownBlock] <;> omega)
  have B1 := blk_grown (blk_old D1.out _) hg2 (by simp [Value.ownBlock] <;> omega)
  have hb2 : Below w.heap.size w w2 := below_own (bl_alloc hbs _) hg2 (fun k hk => by simp [Value.ownBlock] at hk; omega)
  have hown4 : Own Vl.cs 4 24 w2 (w.heap.size + 2) (.slice A1 n c1) s.row := (K2.out.alloc_ _).grown hg2 (.inr (by
      intro h
      have := (K2.out.lt w1.heap.size h).2
      have := K0.out
      omega))
  have hneA : ∀ b, b < w.heap.size + 2 → (Value.slice A1 n c1).ownBlock ≠ some b := by
    intro b hb h
    have := (K2.out.lt b h).1
    omega
  have hneB : ∀ b, b < w.heap.size + 2 → (Value.slice A2 m c2).ownBlock ≠ some b := by
    intro b hb h
    have := (hown3.lt b h).1
    omega
  obtain ⟨m0, g0⟩ := blk_rules B0
  obtain ⟨m1, g1⟩ := blk_rules B1
  have M1 := Lib.hid B1
  have s14 := World.cell?_setCell_same w2 ⟨w.heap.size, 14, none⟩ (.slice A2 m c2) (u := .slice A' m d) (by rw [m0]; rfl)
  have KA := Lib.hid hneA
  have KB := Lib.hid hneB
  have OA := Lib.hid hown4
  have OB := Lib.hid hown3
  clear hneA hneB hown4 hown3 hg2 hat2 B0 B1 hbs hb1 hW k0 k1 f0 f1 hz1 hz1' hne1
  go_wp2
  refine bodyPost_ret (results_blk (T := 28) (b := w.heap.size + 1) rfl (fun _ => by kernel_rfl) (fun _ => by kernel_rfl) _ rfl ?_) rfl ⟨A1, c1, A2, c2, rfl, ?_, ?_, ?_⟩
  · have hm1 := M1.out
    simp [World.setCell, Array.getElem?_modify, hm1]
  · refine own_rd (c := c1) (e := 24) (base := w.heap.size + 2) vl_len ?_
    iterate 17 refine Own.set_ ?_ (KA.out _ (by simp)) _
    exact OA.out
  · refine own_rd (c := c2) (e := 80) (base := w.heap.size + 2) cl_len ?_
    iterate 17 refine Own.set_ ?_ (KB.out _ (by simp)) _
    exact OB.out
  · iterate 17 refine bl_set ?_ (by simp) _
    exact hb2
end Go.Proofs.Ytbmaeaknlpgdmaa
