/- ModelRanges: its rows. -/
import Derived.Test.YtbmaeaknlpgdmaaGreatA41
import Derived.Test.YtbmaeaknlpgdmaaGreatA42
import Derived.Test.YtbmaeaknlpgdmaaGreatA29
import Derived.Test.YtbmaeaknlpgdmaaGreatA39
namespace Go.Proofs.YtbmaeaknlpgdmaaGreat
open Go.RowKit Go.Sort Go.Lib
set_option linter.unusedVariables false
set_option linter.unusedSimpArgs false
theorem set16 {w : World} {b : Nat} {T : TypeId} {u0 u1 u2 u3 u4 u5 u6 u7 u8 u9 u10 u11 u12 u13 u14 u15 : Value} (v0 v1 v2 v3 v4 v5 v6 v7 v8 v9 v10 v11 v12 v13 v14 v15 : Value) (h : w.heap[b]? = some (.cells #[u0, u1, u2, u3, u4, u5, u6, u7, u8, u9, u10, u11, u12, u13, u14, u15] T (0, 0))) : ((((((((((((((((w.setCell ⟨b, 0, none⟩ v0).setCell ⟨b, 1, none⟩ v1).setCell ⟨b, 2, none⟩ v2).setCell ⟨b, 3, none⟩ v3).setCell ⟨b, 4, none⟩ v4).setCell ⟨b, 5, none⟩ v5).setCell ⟨b, 6, none⟩ v6).setCell ⟨b, 7, none⟩ v7).setCell ⟨b, 8, none⟩ v8).setCell ⟨b, 9, none⟩ v9).setCell ⟨b, 10, none⟩ v10).setCell ⟨b, 11, none⟩ v11).setCell ⟨b, 12, none⟩ v12).setCell ⟨b, 13, none⟩ v13).setCell ⟨b, 14, none⟩ v14).setCell ⟨b, 15, none⟩ v15).heap[b]? = some (.cells #[v0, v1, v2, v3, v4, v5, v6, v7, v8, v9, v10, v11, v12, v13, v14, v15] T (0, 0)) := by
  have h0 := blk_set_eq (L' := #[v0, u1, u2, u3, u4, u5, u6, u7, u8, u9, u10, u11, u12, u13, u14, u15]) h 0 v0 rfl
  have h1 := blk_set_eq (L' := #[v0, v1, u2, u3, u4, u5, u6, u7, u8, u9, u10, u11, u12, u13, u14, u15]) h0 1 v1 rfl
  have h2 := blk_set_eq (L' := #[v0, v1, v2, u3, u4, u5, u6, u7, u8, u9, u10, u11, u12, u13, u14, u15]) h1 2 v2 rfl
  have h3 := blk_set_eq (L' := #[v0, v1, v2, v3, u4, u5, u6, u7, u8, u9, u10, u11, u12, u13, u14, u15]) h2 3 v3 rfl
  have h4 := blk_set_eq (L' := #[v0, v1, v2, v3, v4, u5, u6, u7, u8, u9, u10, u11, u12, u13, u14, u15]) h3 4 v4 rfl
  have h5 := blk_set_eq (L' := #[v0, v1, v2, v3, v4, v5, u6, u7, u8, u9, u10, u11, u12, u13, u14, u15]) h4 5 v5 rfl
  have h6 := blk_set_eq (L' := #[v0, v1, v2, v3, v4, v5, v6, u7, u8, u9, u10, u11, u12, u13, u14, u15]) h5 6 v6 rfl
  have h7 := blk_set_eq (L' := #[v0, v1, v2, v3, v4, v5, v6, v7, u8, u9, u10, u11, u12, u13, u14, u15]) h6 7 v7 rfl
  have h8 := blk_set_eq (L' := #[v0, v1, v2, v3, v4, v5, v6, v7, v8, u9, u10, u11, u12, u13, u14, u15]) h7 8 v8 rfl
  have h9 := blk_set_eq (L' := #[v0, v1, v2, v3, v4, v5, v6, v7, v8, v9, u10, u11, u12, u13, u14, u15]) h8 9 v9 rfl
  have h10 := blk_set_eq (L' := #[v0, v1, v2, v3, v4, v5, v6, v7, v8, v9, v10, u11, u12, u13, u14, u15]) h9 10 v10 rfl
  have h11 := blk_set_eq (L' := #[v0, v1, v2, v3, v4, v5, v6, v7, v8, v9, v10, v11, u12, u13, u14, u15]) h10 11 v11 rfl
  have h12 := blk_set_eq (L' := #[v0, v1, v2, v3, v4, v5, v6, v7, v8, v9, v10, v11, v12, u13, u14, u15]) h11 12 v12 rfl
  have h13 := blk_set_eq (L' := #[v0, v1, v2, v3, v4, v5, v6, v7, v8, v9, v10, v11, v12, v13, u14, u15]) h12 13 v13 rfl
  have h14 := blk_set_eq (L' := #[v0, v1, v2, v3, v4, v5, v6, v7, v8, v9, v10, v11, v12, v13, v14, u15]) h13 14 v14 rfl
  have h15 := blk_set_eq (L' := #[v0, v1, v2, v3, v4, v5, v6, v7, v8, v9, v10, v11, v12, v13, v14, v15]) h14 15 v15 rfl
  exact h15
theorem bel16 {w0 w : World} {b : Nat} (v0 v1 v2 v3 v4 v5 v6 v7 v8 v9 v10 v11 v12 v13 v14 v15 : Value) (h : Below w0.heap.size w0 w) (hb : w0.heap.size ≤ b) : Below w0.heap.size w0 ((((((((((((((((w.setCell ⟨b, 0, none⟩ v0).setCell ⟨b, 1, none⟩ v1).setCell ⟨b, 2, none⟩ v2).setCell ⟨b, 3, none⟩ v3).setCell ⟨b, 4, none⟩ v4).setCell ⟨b, 5, none⟩ v5).setCell ⟨b, 6, none⟩ v6).setCell ⟨b, 7, none⟩ v7).setCell ⟨b, 8, none⟩ v8).setCell ⟨b, 9, none⟩ v9).setCell ⟨b, 10, none⟩ v10).setCell ⟨b, 11, none⟩ v11).setCell ⟨b, 12, none⟩ v12).setCell ⟨b, 13, none⟩ v13).setCell ⟨b, 14, none⟩ v14).setCell ⟨b, 15, none⟩ v15) := by
  have h0 := bl_set (p := ⟨b, 0, none⟩) h hb v0
  have h1 := bl_set (p := ⟨b, 1, none⟩) h0 hb v1
  have h2 := bl_set (p := ⟨b, 2, none⟩) h1 hb v2
  have h3 := bl_set (p := ⟨b, 3, none⟩) h2 hb v3
  have h4 := bl_set (p := ⟨b, 4, none⟩) h3 hb v4
  have h5 := bl_set (p := ⟨b, 5, none⟩) h4 hb v5
  have h6 := bl_set (p := ⟨b, 6, none⟩) h5 hb v6
  have h7 := bl_set (p := ⟨b, 7, none⟩) h6 hb v7
  have h8 := bl_set (p := ⟨b, 8, none⟩) h7 hb v8
  have h9 := bl_set (p := ⟨b, 9, none⟩) h8 hb v9
  have h10 := bl_set (p := ⟨b, 10, none⟩) h9 hb v10
  have h11 := bl_set (p := ⟨b, 11, none⟩) h10 hb v11
  have h12 := bl_set (p := ⟨b, 12, none⟩) h11 hb v12
  have h13 := bl_set (p := ⟨b, 13, none⟩) h12 hb v13
  have h14 := bl_set (p := ⟨b, 14, none⟩) h13 hb v14
  have h15 := bl_set (p := ⟨b, 15, none⟩) h14 hb v15
  exact h15
set_option maxRecDepth 100000 in
set_option maxHeartbeats 4000000 in
theorem btw_any (a b : Int) (w : World) : Pure Tryz.prog 15 #[.int .i64 a, .int .i64 b] w ((stR a b).agg (.slice none 0 0) (.slice none 0 0)) := by
  go_enter Tryz.func15, Tryz.ntmps15
  go_wp2_with fail
  refine (num_any a _).mono ?_
  rintro e w1 ⟨rfl, hb1⟩
  have H0 := blk_below (blk_new w (.cells #[.int .i64 0, .string ⟨#[]⟩, .string ⟨#[]⟩, .string ⟨#[]⟩, .string ⟨#[]⟩, .int .i64 0, .int .i64 0, .float .f64 0, .string ⟨#[]⟩, .int .i64 0, .int .i64 0, .float .f64 0, .string ⟨#[]⟩, .slice none 0 0, .slice none 0 0, .bool false] 37)) hb1
  have HB1 := Lib.hid (show Below w.heap.size w w1 from bl_step (by (repeat (first | assumption | exact Below.refl _ _ | refine bl_drewN ?_ _ | refine bl_drew ?_ | refine bl_alloc ?_ _ | refine bl_step ?_ (by assumption)))) hb1)
  have H0' := Lib.hid H0
  clear H0 hb1
  go_wp2_with fail
  refine (num_any b _).mono ?_
  rintro e w2 ⟨rfl, hb2⟩
  have H1 := blk_below H0'.out hb2
  have HB2 := Lib.hid (bl_step HB1.out hb2)
  have H1' := Lib.hid H1
  obtain ⟨k1, f1⟩ := blk_rules H1
  have hz := blk_lt H1
  clear H1 hb2
  go_wp2
  have HF := set16 (.int .i64 8) (.string ⟨#[116]⟩) (.string ⟨#[]⟩) (.string ⟨#[97]⟩) (.string ⟨#[]⟩) (.int .i64 2) (.int .i64 a) (.float .f64 0) (.string ⟨#[]⟩) (.int .i64 2) (.int .i64 b) (.float .f64 0) (.string ⟨#[]⟩) (.slice none 0 0) (.slice none 0 0) (.bool false) H1'.out
  have HL := bel16 (.int .i64 8) (.string ⟨#[116]⟩) (.string ⟨#[]⟩) (.string ⟨#[97]⟩) (.string ⟨#[]⟩) (.int .i64 2) (.int .i64 a) (.float .f64 0) (.string ⟨#[]⟩) (.int .i64 2) (.int .i64 b) (.float .f64 0) (.string ⟨#[]⟩) (.slice none 0 0) (.slice none 0 0) (.bool false) HB2.out (Nat.le_refl _)
  clear H1' H0' HB1 HB2 k1 f1 hz
  refine bodyPost_ret (v := (stR a b).agg (.slice none 0 0) (.slice none 0 0)) (results_blk (T := 37) (b := w.heap.size) rfl (fun _ => by kernel_rfl) (fun _ => by kernel_rfl) _ rfl HF) rfl ⟨rfl, HL⟩
end Go.Proofs.YtbmaeaknlpgdmaaGreat
