/- The laws' own small script: what a model that works answers. The laws' own small script answers true. -/
import Derived.Test.YtbmaeaknlpgdmaaGreatA28
import Derived.Test.YtbmaeaknlpgdmaaGreatA17
namespace Go.Proofs.YtbmaeaknlpgdmaaGreat
open Go.RowKit Go.Sort Go.Lib
set_option linter.unusedVariables false
set_option linter.unusedSimpArgs false
abbrev tT : ByteArray := ⟨#[116]⟩
abbrev vZ : Vl := ⟨0, 0, 0, ⟨#[]⟩⟩
def colA : Cl := ⟨⟨#[97]⟩, 2, false, vZ⟩
def colB : Cl := ⟨⟨#[98]⟩, 2, false, vZ⟩
/-- create's statement. -/
def crSt : St := { zeroSt 10 with t := tT, cols := [colA, colB] }
def num5 : Vl := ⟨2, 5, 0, ⟨#[]⟩⟩
def inSt : St := { zeroSt 4 with t := tT, row := [num5] }
def fiSt : St := { zeroSt 7 with t := tT, c := ⟨#[97]⟩, v := num5 }
theorem crSt_good : goodS crSt = true := by decide +kernel
theorem inSt_good : goodS inSt = true := by decide +kernel
theorem fiSt_good : goodS fiSt = true := by decide +kernel
def tb0 : Tb := ⟨[colA, colB], [], []⟩
def tb1 : Tb := ⟨[colA, colB], [[num5, vZ]], []⟩
theorem cr_none : createM [] crSt = (0, [(tT, tb0)]) := by rfl
theorem ins_tb0 : fillE tb0.cols inSt.row = 0 := by decide +kernel
theorem pad_tb0 : padL tb0.cols inSt.row = [num5, vZ] := by rfl
set_option maxRecDepth 100000 in
theorem num_any (k : Int) (w : World) : Pure Tryz.prog 14 #[.int .i64 k] w (.agg #[.int .i64 2, .int .i64 k, .float .f64 0, .string ⟨#[]⟩]) := by
  go_enter Tryz.func14, Tryz.ntmps14
  go_wp2
  exact bodyPost_ret (results_blk (T := 33) (b := w.heap.size) rfl (fun _ => by kernel_rfl) (fun _ => by kernel_rfl) _ rfl (blk_new w _)) rfl ⟨rfl, by (repeat (first | assumption | exact Below.refl _ _ | refine bl_drewN ?_ _ | refine bl_drew ?_ | refine bl_alloc ?_ _ | refine bl_step ?_ (by assumption)))⟩
theorem rd_blk {α : Type} {cs : α → List Value} {size : Nat} (hcs : ∀ x, (cs x).length = size) {w : World} {b : Nat} {L : Array Value} {T : TypeId} {xs : List α} (hL : L = (xs.flatMap cs).toArray) (h : w.heap[b]? = some (.cells L T (0, 0))) (hm : xs.length ≤ 9223372036854775807) :
    Rd cs size w (some ⟨b, 0, none⟩) xs.length xs :=
  ⟨rfl, hm, fun _ => ⟨b, 0, rfl, fun i x hx j u hu => by
    have hj : j < size := by rw [← hcs x]; exact (List.getElem?_eq_some_iff.1 hu).1
    rw [(blk_rules h).1, Nat.zero_add, hL, List.getElem?_toArray, flat_at hcs xs i x hx j hj, hu]⟩⟩
def CrPost (t : ByteArray) (w : World) (e : Ending) (w' : World) : Prop := ∃ B, e = .returned (({ crSt with t := t } : St).agg (.slice none 0 0) (.slice B 2 2)) ∧ RdC w' B 2 [colA, colB] ∧ Below w.heap.size w w'
set_option maxRecDepth 100000 in
set_option maxHeartbeats 1000000 in
theorem cr_any (t : ByteArray) (w : World) : Calls Tryz.prog 12 #[.string t] w (CrPost t w) := by
  go_enter Tryz.func12, Tryz.ntmps12
  go_wp2
  refine bodyPost_ret (results_blk (T := 37) (b := w.heap.size) rfl (fun _ => by kernel_rfl) (fun _ => by kernel_rfl) _ rfl (blk_old (blk_new w _) _)) rfl ⟨some ⟨w.heap.size + 1, 0, none⟩, rfl, rd_blk (T := 85) (xs := [colA, colB]) cl_len (L := #[.string ⟨#[97]⟩, .int .i64 2, .bool false, .int .i64 0, .int .i64 0, .float .f64 0, .string ⟨#[]⟩, .string ⟨#[98]⟩, .int .i64 2, .bool false, .int .i64 0, .int .i64 0, .float .f64 0, .string ⟨#[]⟩]) rfl ?_ (by simp), by (repeat (first | assumption | exact Below.refl _ _ | refine bl_drewN ?_ _ | refine bl_drew ?_ | refine bl_alloc ?_ _ | refine bl_step ?_ (by assumption)))⟩
  have hh := blk_new (w.alloc (.cells #[.int .i64 10, .string t, .string ⟨#[]⟩, .string ⟨#[]⟩, .string ⟨#[]⟩, .int .i64 0, .int .i64 0, .float .f64 0, .string ⟨#[]⟩, .int .i64 0, .int .i64 0, .float .f64 0, .string ⟨#[]⟩, .slice none 0 0, .slice (some ⟨w.heap.size + 1, 0, none⟩) 2 2, .bool false] 37)) (.cells #[.string ⟨#[97]⟩, .int .i64 2, .bool false, .int .i64 0, .int .i64 0, .float .f64 0, .string ⟨#[]⟩, .string ⟨#[98]⟩, .int .i64 2, .bool false, .int .i64 0, .int .i64 0, .float .f64 0, .string ⟨#[]⟩] 85)
  rw [szal] at hh
  exact hh
/-- The domain of a call's own model. -/
abbrev Ow (w0 w : World) : Nat → Prop := fun b => w0.heap.size ≤ b ∧ b < w.heap.size
theorem ow_dn {w0 w w' : World} {m : Nat} {S : List (ByteArray × Tb)} (h : ModelAt (Dn (Ow w0 w) w w') w' m S) (h0 : w0.heap.size ≤ w.heap.size) (h1 : w.heap.size ≤ w'.heap.size) : ModelAt (Ow w0 w') w' m S :=
  h.mono fun b hb hd => by rcases hd with hd | hd; exact ⟨hd.1, hb⟩; exact ⟨by omega, hb⟩
theorem ow_bel {w0 w w' : World} (hb : Below w0.heap.size w0 w) (h : Fr (Ow w0 w) w w') : Below w0.heap.size w0 w' := bl_fr hb h fun b hd => hd.1
theorem ow_keep {w0 w w' : World} {m : Nat} {S : List (ByteArray × Tb)} (h : ModelAt (Ow w0 w) w m S) (hb : Below w.heap.size w w') : ModelAt (Ow w0 w') w' m S := (h.keep hb).mono fun b hb' hd => ⟨hd.1, hb'⟩
theorem en_one {L : List En} {n : ByteArray} {t : Tb} (h : enS L = [(n, t)]) : ∃ x, L = [x] ∧ x.name = n ∧ x.t = t := by
  match L, h with
  | [x], h => simp [enS] at h; exact ⟨x, rfl, h.1, h.2⟩
end Go.Proofs.YtbmaeaknlpgdmaaGreat
namespace Go.Proofs.YtbmaeaknlpgdmaaGreat
open Go.RowKit Go.Sort Go.Lib
set_option linter.unusedVariables false
set_option linter.unusedSimpArgs false
theorem ins_rep : insT tb0 inSt.row true = ⟨0, 1, tb1⟩ := by
  unfold insT
  rw [if_neg (by rw [ins_tb0]; simp), if_neg (by simp), if_neg (by show ¬ 512 < 0 + 1; omega)]
  rfl
theorem find_tb1 : findC tb1.cols fiSt.c = 0 := by decide +kernel
theorem hits_tb1 : hitsT tb1 fiSt = [[num5, vZ]] := by decide +kernel
theorem find_rep : findRep tb1 fiSt = (0, [[num5, vZ]]) := by
  unfold findRep
  rw [find_tb1, if_neg (by decide), hits_tb1]
theorem cr_again : createM [(tT, tb1)] crSt = (62, [(tT, tb1)]) := by rfl
theorem tb0_ok : TbOK tb0 := ⟨by decide, by decide, fun r hr => by cases hr⟩
theorem tb1_ok : TbOK tb1 := ⟨by decide, by decide, fun r hr => by simp [tb1] at hr; subst hr; rfl⟩
theorem set_one (n : ByteArray) (t t' : Tb) : setS [(n, t)] n t' = [(n, t')] := by simp [setS]
theorem perm_one {r : List Vl} {rs : List (List Vl)} (h : Ordered [r] rs) : rs = [r] := List.perm_singleton.1 h.1
/-- The one row's cells that the script asks. -/
theorem rows_one {D : Nat → Prop} {w : World} {V : Value} {r : List Vl} {x y : Vl} (h : RowsD D w V [r]) (hr : r = [x, y]) : ∃ b c b2 c2, V = .slice (some ⟨b, 0, none⟩) 1 c ∧ w.cell? ⟨b, 0, none⟩ = some (.slice (some ⟨b2, 0, none⟩) 2 c2) ∧ w.cell? ⟨b2, 4, none⟩ = some (.int .i64 y.k) := by
  obtain ⟨ds, h1, h2, h3⟩ := h
  match ds, h2 with
  | [s], _ =>
    have hs := h3 0 s r rfl rfl
    obtain ⟨g, p, e⟩ : ∃ g c, V = .slice (some ⟨g, 0, none⟩) 1 c := by
      rcases h1.1.2 with ⟨_, h⟩ | ⟨g, cap, cur, rfl, _⟩
      · cases h
      · exact ⟨g, cap, rfl⟩
    obtain ⟨g2, c2, e2⟩ : ∃ g c, s.v = .slice (some ⟨g, 0, none⟩) 2 c := by
      rcases hs.1.2 with ⟨_, h⟩ | ⟨g, cap, cur, hv, _⟩
      · rw [hr] at h; cases h
      · rw [hr] at hv; exact ⟨g, cap, hv⟩
    subst e
    refine ⟨g, p, g2, c2, rfl, ?_, ?_⟩
    · have hc := (own_rd sl_len h1.1).2.2 (by simp)
      obtain ⟨b, o, he, hcell⟩ := hc
      injection he with he
      injection he with he1 he2
      subst he1 he2
      have := hcell 0 s rfl 0 _ rfl
      simp only [Sl.v] at e2
      rw [e2] at this
      simpa using this
    · obtain ⟨sA, sn, sc⟩ := s
      simp only [Sl.v] at e2
      injection e2 with e3 e4 e5
      subst e3 e4 e5
      have hc := (own_rd vl_len hs.1).2.2 (by simp)
      obtain ⟨b, o, he, hcell⟩ := hc
      injection he with he
      injection he with he1 he2
      subst he1 he2
      rw [hr] at hcell
      have := hcell 1 y rfl 0 _ rfl
      simpa using this
theorem fld0 (c n : Int) (A : Option Addr) (k e : Nat) (w : World) : (Instr.field 29 (.agg #[.int .i64 c, .int .i64 n, .slice A k e]) 0).run Tryz.prog w = .ok (.int .i64 c) w := by kernel_rfl
theorem fld1 (c n : Int) (A : Option Addr) (k e : Nat) (w : World) : (Instr.field 29 (.agg #[.int .i64 c, .int .i64 n, .slice A k e]) 1).run Tryz.prog w = .ok (.int .i64 n) w := by kernel_rfl
set_option maxRecDepth 100000 in
set_option maxHeartbeats 8000000 in
theorem wakes_any (w : World) : Pure Tryz.prog 13 #[] w (.bool true) := by
  go_enter Tryz.func13, Tryz.ntmps13
  go_wp2_with fail
  refine (new_any _).mono ?_
  rintro e w1 ⟨m, rfl, hm, hrep1, hb1⟩
  have HM1 := Lib.hid (show ModelAt (Ow w w1) w1 m [] from hrep1.mono fun b hb hd => ⟨hd, hb⟩)
  have HB1 := Lib.hid hb1
  clear hrep1 hb1 hm
  go_wp2_with fail
  refine (cr_any _ _).mono ?_
  rintro e w2 ⟨B, rfl, hrc, hb2⟩
  have HM2 := Lib.hid (ow_keep HM1.out hb2)
  have HB2 := Lib.hid (bl_step HB1.out hb2)
  have HRC := Lib.hid hrc
  clear hrc hb2
  go_wp2_with fail
  refine (do_create (Ow w w2) m [] crSt none B 0 0 2 2 _ HM2.out ⟨rfl, by simp, fun h => absurd h (by simp)⟩ HRC.out (fun b hb => hb.2) rfl crSt_good (by simp)).mono ?_
  rintro e w3 ⟨rfl, hm3, hf3⟩
  rw [cr_none] at hm3 ⊢
  dsimp only [replyV]
  have fl0 := fld0
  have fl1 := fld1
  have HM3 := Lib.hid (ow_dn hm3 HB2.out.size hf3.size)
  have HB3 := Lib.hid (ow_bel HB2.out hf3)
  clear hm3 hf3
  go_wp2_with fail
  refine (num_any 5 _).mono ?_
  rintro e w4 ⟨rfl, hb4⟩
  have HM4 := Lib.hid (ow_keep HM3.out hb4)
  have HB4 := Lib.hid (bl_step HB3.out hb4)
  clear hb4
  go_wp2_with fail
  have PR := blk_new w4 (.cells #[.int .i64 2, .int .i64 5, .float .f64 0, .string ⟨#[]⟩] 33)
  have HB5 := Lib.hid (bl_alloc HB4.out (.cells #[.int .i64 2, .int .i64 5, .float .f64 0, .string ⟨#[]⟩] 33))
  have HM5 := ow_keep HM4.out (bl_alloc (Below.refl _ _) (.cells #[.int .i64 2, .int .i64 5, .float .f64 0, .string ⟨#[]⟩] 33))
  obtain ⟨hb, L, hL, hrep⟩ := HM5
  obtain ⟨x, rfl, hxn, hxt⟩ := en_one hL
  refine (do_insert _ m hb [x] inSt (some ⟨w4.heap.size, 0, none⟩) none 1 1 0 0 _ hrep (rd_one (x := num5) rfl PR) ⟨rfl, by simp, fun h => absurd h (by simp)⟩ (fun b hb => hb.2) rfl inSt_good 0 x rfl hxn (by rw [hxt]; exact tb0_ok) true (uniqOK_nil (by rw [hxt]; rfl))).mono ?_
  rw [hxt, ins_rep, hL]
  rintro e w6 ⟨rfl, hm6, hf6⟩
  rw [show setS [(tT, tb0)] inSt.t tb1 = [(tT, tb1)] from set_one _ _ _] at hm6
  have HM6 := Lib.hid (ow_dn hm6 HB5.out.size hf6.size)
  have HB6 := Lib.hid (ow_bel HB5.out hf6)
  clear hm6 hf6 hrep hL hxn hxt PR
  dsimp only [replyV]
  go_wp2_with fail
  refine (num_any 5 _).mono ?_
  rintro e w7 ⟨rfl, hb7⟩
  have HM7 := ow_keep HM6.out hb7
  have HB7 := Lib.hid (bl_step HB6.out hb7)
  clear hb7
  go_wp2_with fail
  obtain ⟨hb', L', hL', hrep'⟩ := HM7
  obtain ⟨y, rfl, hyn, hyt⟩ := en_one hL'
  refine (do_find _ m hb' [y] fiSt none none 0 0 0 0 _ hrep' ⟨rfl, by simp, fun h => absurd h (by simp)⟩ ⟨rfl, by simp, fun h => absurd h (by simp)⟩ rfl fiSt_good 0 y rfl hyn (by rw [hyt]; exact tb1_ok) (by rw [hyt, hits_tb1]; exact stabOK_1 (by simp))).mono ?_
  rw [hyt, find_rep, hL']
  rintro e w8 ⟨V, rs', rfl, hr8, ho8, hm8, hb8⟩
  obtain rfl := perm_one ho8
  have HM8 := Lib.hid (hm8.mono (D' := Ow w w8) (fun b hb hd => ⟨hd.1, hb⟩))
  have HB8 := Lib.hid (bl_step HB7.out hb8)
  obtain ⟨b1, c1, b2, c2, rfl, q1, q2⟩ := rows_one hr8 rfl
  have hz1 := World.block_lt_of_cell? w8 _ q1
  have hz2 := World.block_lt_of_cell? w8 _ q2
  dsimp only at hz1 hz2
  have q2' : w8.cell? ⟨b2, 4, none⟩ = some (.int .i64 0) := q2
  clear hr8 ho8 hm8 hb8 hrep' hL' hyn hyt q2
  dsimp only [replyV]
  go_wp2_with fail
  refine (cr_any _ _).mono ?_
  rintro e w9 ⟨B9, rfl, hrc9, hb9⟩
  have hba := bl_step (bl_alloc (Below.refl w8.heap.size w8) (.cells #[.int .i64 0, .int .i64 1, .slice (some ⟨b1, 0, none⟩) 1 c1] 29)) hb9
  have HM9 := Lib.hid (ow_keep HM8.out hba)
  have HB9 := Lib.hid (bl_step HB8.out hba)
  have HRC9 := Lib.hid hrc9
  clear hrc9 hb9 hba q1 q2' hz1 hz2
  go_wp2_with fail
  refine (do_create (Ow w w9) m [(tT, tb1)] crSt none B9 0 0 2 2 _ HM9.out ⟨rfl, by simp, fun h => absurd h (by simp)⟩ HRC9.out (fun b hb => hb.2) rfl crSt_good (by simp)).mono ?_
  rintro e w10 ⟨rfl, hm10, hf10⟩
  rw [cr_again]
  have HB10 := ow_bel HB9.out hf10
  clear hm10 hf10
  dsimp only [replyV]
  go_wp2
  go_ret
  exact ⟨rfl, HB10⟩
end Go.Proofs.YtbmaeaknlpgdmaaGreat
