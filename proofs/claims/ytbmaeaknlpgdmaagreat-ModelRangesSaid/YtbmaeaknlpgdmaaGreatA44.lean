/- ModelRanges: its ranges and finds. ModelRanges: the walk. -/
import Derived.Test.YtbmaeaknlpgdmaaGreatA43
import Derived.Test.YtbmaeaknlpgdmaaGreatA42
import Derived.Test.YtbmaeaknlpgdmaaGreatA40
namespace Go.Proofs.YtbmaeaknlpgdmaaGreat
open Go.RowKit Go.Sort Go.Lib
set_option linter.unusedVariables false
set_option linter.unusedSimpArgs false
def RRPost (W0 : World) (m : Nat) (xs : List Int) (k : Nat) (hits : List (List Vl)) (w : World) (e : Ending) (w' : World) : Prop :=
  ∃ A c rs, e = .returned (replyV 0 hits.length (.slice A hits.length c)) ∧ RowsD (fun b => w.heap.size ≤ b) w' (.slice A hits.length c) rs ∧ Ordered hits rs ∧ ModelAt (Ow W0 w') w' m [(tT, tbK xs k)] ∧ Below w.heap.size w w'
theorem rng_do (W0 w : World) (m : Nat) (xs : List Int) (k : Nat) (a b : Int) (hk : k ≤ 30) (h : ModelAt (Ow W0 w) w m [(tT, tbK xs k)]) : Calls Tryz.prog 11 #[.pointer (some ⟨m, 0, none⟩), (stR a b).agg (.slice none 0 0) (.slice none 0 0)] w (RRPost W0 m xs k (inR xs k a b) w) := by
  obtain ⟨hb, L, hL, hrep⟩ := h
  obtain ⟨y, rfl, hyn, hyt⟩ := en_one hL
  have hle : (inR xs k a b).length ≤ k := by have := List.length_filter_le (meansR (stR a b) 0) (rowsK xs k); rw [rowsK_len] at this; exact this
  have hrp := rep_rng xs k a b
  have hh : hitsT (tbK xs k) (stR a b) = inR xs k a b := by
    unfold findRep at hrp
    have h0 : findC (tbK xs k).cols (stR a b).c = (0 : Nat) := findA
    rw [h0, if_neg (by omega)] at hrp
    exact (Prod.mk.inj hrp).2
  refine (do_range (Ow W0 w) m hb [y] (stR a b) none none 0 0 0 0 w hrep ⟨rfl, by simp, fun h => absurd h (by simp)⟩ ⟨rfl, by simp, fun h => absurd h (by simp)⟩ rfl (good_R a b) 0 y rfl hyn (by rw [hyt]; exact tbK_ok xs k (by omega)) (by rw [hyt, hh]; exact stabOK_any (by omega))).mono ?_
  rw [hyt, hrp, hL]
  rintro e w' ⟨V, rs, rfl, hr, ho, hm, hbl⟩
  obtain ⟨A, c, rfl, _⟩ := hr.rdR
  rw [ho.1.length_eq] at hr ⊢
  exact ⟨A, c, rs, rfl, hr, ho, hm.mono (fun b hb hd => ⟨hd.1, hb⟩), hbl⟩
theorem fnd_do (W0 w : World) (m : Nat) (xs : List Int) (k : Nat) (v : Int) (hk : k ≤ 30) (h : ModelAt (Ow W0 w) w m [(tT, tbK xs k)]) : Calls Tryz.prog 11 #[.pointer (some ⟨m, 0, none⟩), (stF v).agg (.slice none 0 0) (.slice none 0 0)] w (RRPost W0 m xs k (inF xs k v) w) := by
  obtain ⟨hb, L, hL, hrep⟩ := h
  obtain ⟨y, rfl, hyn, hyt⟩ := en_one hL
  have hle : (inF xs k v).length ≤ k := by have := List.length_filter_le (meansR (stF v) 0) (rowsK xs k); rw [rowsK_len] at this; exact this
  have hrp := rep_fnd xs k v
  have hh : hitsT (tbK xs k) (stF v) = inF xs k v := by
    unfold findRep at hrp
    have h0 : findC (tbK xs k).cols (stF v).c = (0 : Nat) := findA
    rw [h0, if_neg (by omega)] at hrp
    exact (Prod.mk.inj hrp).2
  refine (do_find (Ow W0 w) m hb [y] (stF v) none none 0 0 0 0 w hrep ⟨rfl, by simp, fun h => absurd h (by simp)⟩ ⟨rfl, by simp, fun h => absurd h (by simp)⟩ rfl (good_F v) 0 y rfl hyn (by rw [hyt]; exact tbK_ok xs k (by omega)) (by rw [hyt, hh]; exact stabOK_any (by omega))).mono ?_
  rw [hyt, hrp, hL]
  rintro e w' ⟨V, rs, rfl, hr, ho, hm, hbl⟩
  obtain ⟨A, c, rfl, _⟩ := hr.rdR
  rw [ho.1.length_eq] at hr ⊢
  exact ⟨A, c, rs, rfl, hr, ho, hm.mono (fun b hb hd => ⟨hd.1, hb⟩), hbl⟩
theorem inR_le (xs : List Int) (k : Nat) (a b : Int) : (inR xs k a b).length ≤ k := by have := List.length_filter_le (meansR (stR a b) 0) (rowsK xs k); rw [rowsK_len] at this; exact this
theorem inF_le (xs : List Int) (k : Nat) (v : Int) : (inF xs k v).length ≤ k := by have := List.length_filter_le (meansR (stF v) 0) (rowsK xs k); rw [rowsK_len] at this; exact this
end Go.Proofs.YtbmaeaknlpgdmaaGreat
namespace Go.Proofs.YtbmaeaknlpgdmaaGreat
open Go.RowKit Go.Sort Go.Lib
set_option linter.unusedVariables false
set_option linter.unusedSimpArgs false
abbrev I8.cs (x : Int) : List Value := [.int .i8 x]
abbrev Rd8 (w : World) (A : Option Addr) (n : Nat) (xs : List Int) : Prop := Rd I8.cs 1 w A n xs
theorem Rd8.get_ {w w' : World} {A : Option Addr} {n : Nat} {xs : List Int} (h : Rd8 w A n xs) (hb : Below w.heap.size w w') {k : Nat} (hk : k < n) : ∃ b o x, A = some ⟨b, o, none⟩ ∧ xs[k]? = some x ∧ w'.cell? ⟨b, o + k, none⟩ = some (.int .i8 x) ∧ b < w.heap.size := by
  obtain ⟨b, o, hA, hc⟩ := h.2.2 (by omega)
  have hkx : k < xs.length := by rw [h.1]; exact hk
  have hx := List.getElem?_eq_getElem hkx
  have h0 := hc k _ hx 0 _ rfl
  rw [Nat.mul_one, Nat.add_zero] at h0
  exact ⟨b, o, _, hA, hx, pw_cell hb h0, World.block_lt_of_cell? w _ h0⟩
theorem eq_m (m : Nat) (w : World) : (binOp .eql 25 (.pointer (some ⟨m, 0, none⟩)) (.pointer none)).run Tryz.prog w = .ok (.bool false) w := by kernel_rfl
theorem ne_m (m : Nat) (w : World) : (binOp .neq 25 (.pointer (some ⟨m, 0, none⟩)) (.pointer none)).run Tryz.prog w = .ok (.bool true) w := by kernel_rfl
theorem min3_in (n0 n1 n2 : Int) (h : (-128 ≤ n0 ∧ n0 ≤ 127) ∧ (-128 ≤ n1 ∧ n1 ≤ 127) ∧ (-128 ≤ n2 ∧ n2 ≤ 127)) : wrap64 (if n2 < if n1 < n0 then n1 else n0 then n2 else if n1 < n0 then n1 else n0) = (if n2 < if n1 < n0 then n1 else n0 then n2 else if n1 < n0 then n1 else n0) := by
  have g : -9223372036854775808 ≤ (if n2 < if n1 < n0 then n1 else n0 then n2 else if n1 < n0 then n1 else n0) ∧ (if n2 < if n1 < n0 then n1 else n0 then n2 else if n1 < n0 then n1 else n0) ≤ 9223372036854775807 := by split <;> split <;> omega
  have := IntWalk.i64_in _ g
  rw [IntKind.wrap_i64] at this
  first | exact this | (unfold wrap64; exact this)
theorem max3_in (n0 n1 n2 : Int) (h : (-128 ≤ n0 ∧ n0 ≤ 127) ∧ (-128 ≤ n1 ∧ n1 ≤ 127) ∧ (-128 ≤ n2 ∧ n2 ≤ 127)) : wrap64 (if (if n0 < n1 then n1 else n0) < n2 then n2 else if n0 < n1 then n1 else n0) = (if (if n0 < n1 then n1 else n0) < n2 then n2 else if n0 < n1 then n1 else n0) := by
  have g : -9223372036854775808 ≤ (if (if n0 < n1 then n1 else n0) < n2 then n2 else if n0 < n1 then n1 else n0) ∧ (if (if n0 < n1 then n1 else n0) < n2 then n2 else if n0 < n1 then n1 else n0) ≤ 9223372036854775807 := by split <;> split <;> omega
  have := IntWalk.i64_in _ g
  rw [IntKind.wrap_i64] at this
  first | exact this | (unfold wrap64; exact this)
/-- The three replies, as they lie. -/
def Rf (p1 p2 : Nat) (C1 C2 C3 : Array Value) (w0 w : World) : Prop := w.heap[p1]? = some (.cells C1 29 (0, 0)) ∧ w.heap[p2]? = some (.cells C2 29 (0, 0)) ∧ w.heap[p2 + 1]? = some (.cells C3 29 (0, 0)) ∧ Below w0.heap.size w0 w
theorem Rf.step {p1 p2 : Nat} {C1 C2 C3 : Array Value} {w0 w w' : World} (h : Rf p1 p2 C1 C2 C3 w0 w) (hb : Below w.heap.size w w') : Rf p1 p2 C1 C2 C3 w0 w' := ⟨blk_below h.1 hb, blk_below h.2.1 hb, blk_below h.2.2.1 hb, bl_step h.2.2.2 hb⟩
set_option maxRecDepth 100000 in
set_option maxHeartbeats 8000000 in
theorem mranges_any (A : Option Addr) (n c : Nat) (xs : List Int) (n0 n1 n2 : Int) (w : World) (hr : Rd8 w A n xs) (hx : ∀ x ∈ xs, -128 ≤ x ∧ x ≤ 127) (hn : (-128 ≤ n0 ∧ n0 ≤ 127) ∧ (-128 ≤ n1 ∧ n1 ≤ 127) ∧ (-128 ≤ n2 ∧ n2 ≤ 127)) :
    Pure Tryz.prog 3 #[.slice A n c, .agg #[.int .i8 n0, .int .i8 n1, .int .i8 n2]] w (.bool true) := by
  have HR := Lib.hid hr
  have HX := Lib.hid hx
  have HN := Lib.hid hn
  have hnm := hr.2.1
  clear hr hx hn
  go_enter Tryz.func3, Tryz.ntmps3
  go_wp2_with fail
  have P0 := blk_new w (.cells #[.int .i8 n0, .int .i8 n1, .int .i8 n2] 24)
  have PL : Below w.heap.size w (w.alloc (.cells #[.int .i8 n0, .int .i8 n1, .int .i8 n2] 24)) := by (repeat (first | assumption | exact Below.refl _ _ | refine bl_drewN ?_ _ | refine bl_drew ?_ | refine bl_alloc ?_ _ | refine bl_step ?_ (by assumption)))
  generalize w.alloc (.cells #[.int .i8 n0, .int .i8 n1, .int .i8 n2] 24) = W0 at P0 PL ⊢
  have H0 := Lib.hid P0
  have HL := Lib.hid PL
  clear P0 PL
  refine (new_any _).mono ?_
  rintro e w1 ⟨m, rfl, hm, hrep1, hb1⟩
  have HM1 := Lib.hid (show ModelAt (Ow W0 w1) w1 m [] from hrep1.mono fun b hb hd => ⟨hd, hb⟩)
  have HB1 := Lib.hid hb1
  clear hrep1 hb1 hm
  have eqm := eq_m m
  have nem := ne_m m
  by_cases h30 : 30 < n
  · have h30' : (30 : Int) < n := by omega
    go_wp2_with fail
    refine (wakes_any _).mono ?_
    rintro e w2 ⟨rfl, hb2⟩
    have hh := bl_step HL.out (bl_step HB1.out hb2)
    clear hb2
    go_wp2
    go_ret
    exact ⟨rfl, hh⟩
  · have h30' : ¬ (30 : Int) < n := by omega
    have hn30 : n ≤ 30 := by omega
    go_wp2_with fail
    refine (cr_any _ _).mono ?_
    rintro e w2 ⟨B, rfl, hrc, hb2⟩
    have HM2 := Lib.hid (ow_keep HM1.out hb2)
    have HB2 := Lib.hid (bl_step HB1.out hb2)
    have HRC := Lib.hid hrc
    clear hrc hb2
    go_wp2_with fail
    refine (do_create (Ow W0 w2) m [] crSt none B 0 0 2 2 _ HM2.out ⟨rfl, by simp, fun h => absurd h (by simp)⟩ HRC.out (fun b hb => hb.2) rfl crSt_good (by simp)).mono ?_
    rintro e w3 ⟨rfl, hm3, hf3⟩
    rw [cr_none] at hm3 ⊢
    dsimp only [replyV]
    have fl0 := fld0
    have fl1 := fld1
    have HM3 := Lib.hid (show ModelAt (Ow W0 w3) w3 m [(tT, tbK xs 0)] from ow_dn hm3 HB2.out.size hf3.size)
    have HB3 := Lib.hid (ow_bel HB2.out hf3)
    clear hm3 hf3 HRC HM1 HM2 HB1 HB2 h30 h30'
    go_wp2
    go_loopw [6] (fun vi wr => ∃ k : Nat, k ≤ n ∧ vi = .int .i64 k ∧ ModelAt (Ow W0 wr) wr m [(tT, tbK xs k)] ∧ Below W0.heap.size W0 wr) (fun vi _ => n - (intOf vi).toNat)
    case atStart => exact ⟨0, Nat.zero_le _, rfl, HM3.out, HB3.out⟩
    case round =>
      obtain ⟨k, hk, rfl, hmr, hbr⟩ := hrel
      have HMR := Lib.hid hmr
      have HBR := Lib.hid hbr
      have HBW := Lib.hid (bl_step HL.out hbr)
      clear hmr hbr HM3 HB3
      by_cases hlt : k < n
      · obtain ⟨b1, o1, x, hA, hxk, x0, hb1⟩ := Rd8.get_ HR.out HBW.out hlt
        subst hA
        have hxb := HX.out x (List.mem_of_getElem? hxk)
        have ex : IntKind.i64.wrap x = x := IntWalk.i64_in _ (by omega)
        have hlt' : (k : Int) < n := by omega
        have HXK := Lib.hid (show xs.getD k 0 = x by rw [List.getD_eq_getElem?_getD, hxk]; rfl)
        clear hxk hxb
        go_wp2_with fail
        refine (num_any x _).mono ?_
        rintro e w4 ⟨rfl, hb4⟩
        have HM4 := Lib.hid (ow_keep HMR.out hb4)
        have HB4 := Lib.hid (bl_step HBR.out hb4)
        clear hb4 x0 ex
        go_wp2_with fail
        refine (num_any k _).mono ?_
        rintro e w5 ⟨rfl, hb5⟩
        have HM5 := Lib.hid (ow_keep HM4.out hb5)
        have HB5 := Lib.hid (bl_step HB4.out hb5)
        clear hb5
        go_wp2_with fail
        have PR := blk_new w5 (.cells #[.int .i64 2, .int .i64 x, .float .f64 0, .string ⟨#[]⟩, .int .i64 2, .int .i64 k, .float .f64 0, .string ⟨#[]⟩] 33)
        have HB6 := Lib.hid (bl_alloc HB5.out (.cells #[.int .i64 2, .int .i64 x, .float .f64 0, .string ⟨#[]⟩, .int .i64 2, .int .i64 k, .float .f64 0, .string ⟨#[]⟩] 33))
        have HM6 := ow_keep HM5.out (bl_alloc (Below.refl _ _) (.cells #[.int .i64 2, .int .i64 x, .float .f64 0, .string ⟨#[]⟩, .int .i64 2, .int .i64 k, .float .f64 0, .string ⟨#[]⟩] 33))
        obtain ⟨hb, L, hL, hrep⟩ := HM6
        obtain ⟨y, rfl, hyn, hyt⟩ := en_one hL
        refine (do_insert _ m hb [y] (stI x k) (some ⟨w5.heap.size, 0, none⟩) none 2 2 0 0 _ hrep (rd_blk (T := 33) (xs := [nV x, nV k]) vl_len rfl PR (by simp)) ⟨rfl, by simp, fun h => absurd h (by simp)⟩ (fun b hb => hb.2) rfl (good_I x k) 0 y rfl hyn (by rw [hyt]; exact tbK_ok xs k (by omega)) true (uniqOK_nil (by rw [hyt]; rfl))).mono ?_
        have hins := ins_I xs k (by omega)
        rw [HXK.out] at hins
        rw [hyt, hins, hL]
        rintro e w7 ⟨rfl, hm7, hf7⟩
        have hm7' : ModelAt (Dn (Ow W0 (w5.alloc (.cells #[.int .i64 2, .int .i64 x, .float .f64 0, .string ⟨#[]⟩, .int .i64 2, .int .i64 k, .float .f64 0, .string ⟨#[]⟩] 33))) (w5.alloc (.cells #[.int .i64 2, .int .i64 x, .float .f64 0, .string ⟨#[]⟩, .int .i64 2, .int .i64 k, .float .f64 0, .string ⟨#[]⟩] 33)) w7) w7 m [(tT, tbK xs (k + 1))] := by
          have := set_one tT (tbK xs k) (tbK xs (k + 1))
          rw [← this]; exact hm7
        have HM7 := Lib.hid (ow_dn hm7' HB6.out.size hf7.size)
        have HB7 := Lib.hid (ow_bel HB6.out hf7)
        clear hm7 hm7' hf7 hrep hL hyn hyt PR hins
        dsimp only [replyV]
        go_wp2
        go_roundw
        case rel => exact ⟨k + 1, by omega, by go_num, HM7.out, HB7.out⟩
        case measure => simp [intOf]; omega
      · have hlt' : ¬ (k : Int) < n := by omega
        obtain rfl : k = n := by omega
        have HBX := blk_below H0.out HBR.out
        obtain ⟨k0, f0⟩ := blk_rules HBX
        have hz0 := blk_lt HBX
        have HBX' := Lib.hid HBX
        clear HBX
        go_wp2_with fail
        go_quiet (fail)
        obtain ⟨⟨b00, b01⟩, ⟨b10, b11⟩, b20, b21⟩ := HN.out
        generalize hA : wrap64 (if n2 < if n1 < n0 then n1 else n0 then n2 else if n1 < n0 then n1 else n0) = a
        generalize hC : wrap64 (if (if n0 < n1 then n1 else n0) < n2 then n2 else if n0 < n1 then n1 else n0) = d
        have hA' : (if n2 < if n1 < n0 then n1 else n0 then n2 else if n1 < n0 then n1 else n0) = a := (min3_in n0 n1 n2 HN.out).symm.trans hA
        have hC' : (if (if n0 < n1 then n1 else n0) < n2 then n2 else if n0 < n1 then n1 else n0) = d := (max3_in n0 n1 n2 HN.out).symm.trans hC
        have ha : a ≤ n0 ∧ a ≤ n1 ∧ a ≤ n2 ∧ (a = n0 ∨ a = n1 ∨ a = n2) := by rw [← hA']; split <;> split <;> omega
        have hd : n0 ≤ d ∧ n1 ≤ d ∧ n2 ≤ d ∧ (d = n0 ∨ d = n1 ∨ d = n2) := by rw [← hC']; split <;> split <;> omega
        rw [hA', hC']
        clear hA hC hA' hC'
        obtain ⟨b, hb⟩ : ∃ b, b = n0 + n1 + n2 - a - d := ⟨_, rfl⟩
        have hab : a ≤ b := by omega
        have hbd : b ≤ d := by omega
        have g1 : IntKind.i64.wrap n0 = n0 := IntWalk.i64_in _ (by omega)
        have g2 : IntKind.i64.wrap n1 = n1 := IntWalk.i64_in _ (by omega)
        have g3 : IntKind.i64.wrap n2 = n2 := IntWalk.i64_in _ (by omega)
        have g4 : IntKind.i64.wrap (n0 + n1) = n0 + n1 := IntWalk.i64_in _ (by omega)
        have g5 : IntKind.i64.wrap (n0 + n1 + n2) = n0 + n1 + n2 := IntWalk.i64_in _ (by omega)
        have g6 : IntKind.i64.wrap (n0 + n1 + n2 - a) = n0 + n1 + n2 - a := IntWalk.i64_in _ (by omega)
        have g7 : IntKind.i64.wrap (n0 + n1 + n2 - a - d) = b := by rw [IntWalk.i64_in _ (by omega), hb]
        have hlo : -200 ≤ a := by omega
        have hhi : d ≤ 200 := by omega
        clear hb ha hd b00 b01 b10 b11 b20 b21
        have MW := Lib.hid (ow_keep HMR.out (below_drewN (Below.refl wr.heap.size wr) nq))
        have BW := Lib.hid (bl_step HBR.out (below_drewN (Below.refl wr.heap.size wr) nq))
        have HBY := blk_below HBX'.out (below_drewN (Below.refl wr.heap.size wr) nq)
        clear k0 f0 hz0 HBX' HMR HBR HBW
        generalize wr.drewN nq = w3 at MW BW HBY ⊢
        obtain ⟨k0, f0⟩ := blk_rules HBY
        have hz0 := blk_lt HBY
        clear HBY
        go_wp2_with fail
        clear k0 f0 hz0 g1 g2 g3 g4 g5 g6 g7
        refine (btw_any a d _).mono ?_
        rintro e v1 ⟨rfl, hb⟩
        have MB1 := Lib.hid (ow_keep MW.out hb)
        have BB1 := Lib.hid (bl_step BW.out hb)
        clear hb
        go_wp2_with fail
        refine (rng_do W0 _ m xs k a d hn30 MB1.out).mono ?_
        rintro e y1 ⟨A1, c1, r1, rfl, hr, ho, hm, hb⟩
        have RD1 := Lib.hid hr
        have OR1 := Lib.hid ho
        have MD1 := Lib.hid hm
        have BD1 := Lib.hid (bl_step BB1.out hb)
        have SD1 := Lib.hid hb
        clear hr ho hm hb MB1
        dsimp only [replyV]
        go_wp2_with fail
        have Z1 := blk_new y1 (.cells #[.int .i64 0, .int .i64 ((inR xs k a d).length : Nat), .slice A1 (inR xs k a d).length c1] 29)
        have MZ := ow_keep MD1.out (bl_alloc (Below.refl _ _) (.cells #[.int .i64 0, .int .i64 ((inR xs k a d).length : Nat), .slice A1 (inR xs k a d).length c1] 29))
        have BZ := bl_step BD1.out (bl_alloc (Below.refl _ _) (.cells #[.int .i64 0, .int .i64 ((inR xs k a d).length : Nat), .slice A1 (inR xs k a d).length c1] 29))
        have RZ := RD1.out.keep (bl_alloc (Below.refl _ _) (.cells #[.int .i64 0, .int .i64 ((inR xs k a d).length : Nat), .slice A1 (inR xs k a d).length c1] 29))
        generalize y1.alloc (.cells #[.int .i64 0, .int .i64 ((inR xs k a d).length : Nat), .slice A1 (inR xs k a d).length c1] 29) = z1 at Z1 MZ BZ RZ ⊢
        have HZ1 := Lib.hid Z1
        have HMZ := Lib.hid MZ
        have HBZ := Lib.hid BZ
        have HRZ := Lib.hid RZ
        clear Z1 MZ BZ RZ MD1 RD1 BD1
        generalize y1.heap.size = p1 at HZ1 ⊢
        refine (btw_any a b _).mono ?_
        rintro e v2 ⟨rfl, hb⟩
        have MB2 := Lib.hid (ow_keep HMZ.out hb)
        have BB2 := Lib.hid (bl_step HBZ.out hb)
        have SB2 := Lib.hid hb
        clear hb
        go_wp2_with fail
        refine (rng_do W0 _ m xs k a b hn30 MB2.out).mono ?_
        rintro e y2 ⟨A2, c2, r2, rfl, hr, ho, hm, hb⟩
        have RD2 := Lib.hid hr
        have OR2 := Lib.hid ho
        have MD2 := Lib.hid hm
        have BD2 := Lib.hid (bl_step BB2.out hb)
        have SD2 := Lib.hid (bl_step SB2.out hb)
        clear hr ho hm hb MB2
        dsimp only [replyV]
        go_wp2_with fail
        refine (btw_any b d _).mono ?_
        rintro e v3 ⟨rfl, hb⟩
        have MB3 := Lib.hid (ow_keep MD2.out hb)
        have BB3 := Lib.hid (bl_step BD2.out hb)
        have SB3 := Lib.hid hb
        clear hb
        go_wp2_with fail
        refine (rng_do W0 _ m xs k b d hn30 MB3.out).mono ?_
        rintro e y3 ⟨A3, c3, r3, rfl, hr, ho, hm, hb⟩
        have RD3 := Lib.hid hr
        have OR3 := Lib.hid ho
        have MD3 := Lib.hid hm
        have BD3 := Lib.hid (bl_step BB3.out hb)
        have SD3 := Lib.hid (bl_step SB3.out hb)
        clear hr ho hm hb MB3
        dsimp only [replyV]
        go_wp2
        have BY : Below y3.heap.size y3 ((y3.alloc (.cells #[.int .i64 0, .int .i64 ((inR xs k a b).length : Nat), .slice A2 (inR xs k a b).length c2] 29)).alloc (.cells #[.int .i64 0, .int .i64 ((inR xs k b d).length : Nat), .slice A3 (inR xs k b d).length c3] 29)) := bl_alloc (bl_alloc (Below.refl _ _) _) _
        have Q2 := blk_old (blk_new y3 (.cells #[.int .i64 0, .int .i64 ((inR xs k a b).length : Nat), .slice A2 (inR xs k a b).length c2] 29)) (.cells #[.int .i64 0, .int .i64 ((inR xs k b d).length : Nat), .slice A3 (inR xs k b d).length c3] 29)
        have Q3 := blk_new (y3.alloc (.cells #[.int .i64 0, .int .i64 ((inR xs k a b).length : Nat), .slice A2 (inR xs k a b).length c2] 29)) (.cells #[.int .i64 0, .int .i64 ((inR xs k b d).length : Nat), .slice A3 (inR xs k b d).length c3] 29)
        rw [szal] at Q3
        generalize (y3.alloc (.cells #[.int .i64 0, .int .i64 ((inR xs k a b).length : Nat), .slice A2 (inR xs k a b).length c2] 29)).alloc (.cells #[.int .i64 0, .int .i64 ((inR xs k b d).length : Nat), .slice A3 (inR xs k b d).length c3] 29) = W4 at BY Q2 Q3 ⊢
        have Q1 := blk_below HZ1.out (bl_step SD2.out (bl_step SD3.out BY))
        have R1 := Lib.hid ((HRZ.out.keep (bl_step SD2.out (bl_step SD3.out BY))).mono (D' := fun _ => True) fun _ _ _ => trivial)
        have R2 := Lib.hid ((RD2.out.keep (bl_step SD3.out BY)).mono (D' := fun _ => True) fun _ _ _ => trivial)
        have R3 := Lib.hid ((RD3.out.keep BY).mono (D' := fun _ => True) fun _ _ _ => trivial)
        have M4 := Lib.hid (ow_keep MD3.out BY)
        have B4 := Lib.hid (bl_step BD3.out BY)
        have HQ1 := Lib.hid Q1
        have HQ2 := Lib.hid Q2
        have HQ3 := Lib.hid Q3
        generalize y3.heap.size = p2 at HQ2 HQ3 ⊢
        clear BY Q1 Q2 Q3 MD3 MD2 BD2 BD3 HMZ HBZ HRZ RD2 RD3 SD1 SD2 SD3 SB2 SB3 BB1 BB2 BB3 HZ1 MW BW
        go_loopw [13, 14] (fun vs vv wr => ∃ v : Int, vs = .int .i64 ((inR xs k a v).length : Nat) ∧ vv = .int .i64 v ∧ a ≤ v ∧ v ≤ d ∧ ModelAt (Ow W0 wr) wr m [(tT, tbK xs k)] ∧ Below W4.heap.size W4 wr) (fun _ vv _ => (d - intOf vv).toNat)
        case atStart => exact ⟨a, by rw [rng_none]; rfl, rfl, by omega, by omega, M4.out, Below.refl _ _⟩
        case round =>
          obtain ⟨v, rfl, rfl, hav, hvd, hmr, hbr⟩ := hrel
          have MR := Lib.hid hmr
          have BR := Lib.hid hbr
          clear hmr hbr M4
          by_cases hlt : v < d
          · go_wp2_with fail
            refine (num_any v _).mono ?_
            rintro e w6 ⟨rfl, hb⟩
            have M6 := Lib.hid (ow_keep MR.out hb)
            have B6 := Lib.hid (bl_step BR.out hb)
            clear hb
            go_wp2_with fail
            refine (fnd_do W0 _ m xs k v hn30 M6.out).mono ?_
            rintro e w7 ⟨A7, c7, r7, rfl, _, _, hm, hb⟩
            have M7 := Lib.hid hm
            have B7 := Lib.hid (bl_step B6.out hb)
            clear hm hb
            dsimp only [replyV]
            have l1 := inR_le xs k a v
            have l2 := inF_le xs k v
            have HS := Lib.hid (rng_one xs k hav)
            have e1 : IntKind.i64.wrap (((inR xs k a v).length : Int) + ((inF xs k v).length : Int)) = ((inR xs k a v).length : Int) + ((inF xs k v).length : Int) := IntWalk.i64_in _ (by omega)
            have e2 : IntKind.i64.wrap (v + 1) = v + 1 := IntWalk.i64_in _ (by omega)
            clear l1 l2
            go_wp2
            go_roundw
            case rel => exact ⟨v + 1, by rw [HS.out]; go_num, rfl, by omega, by omega, M7.out, B7.out⟩
            case measure => simp [intOf]; omega
          · obtain rfl : v = d := by omega
            have BF := Lib.hid (bl_step HL.out (bl_step B4.out BR.out))
            have K1 := blk_below HQ1.out BR.out
            have K2 := blk_below HQ2.out BR.out
            have K3 := blk_below HQ3.out BR.out
            have T1 := Lib.hid (R1.out.keep BR.out)
            have T2 := Lib.hid (R2.out.keep BR.out)
            have T3 := Lib.hid (R3.out.keep BR.out)
            clear R1 R2 R3 HQ1 HQ2 HQ3 MR B4 BR
            have HD : Rf p1 p2 #[.int .i64 0, .int .i64 ((inR xs k a v).length : Nat), .slice A1 (inR xs k a v).length c1] #[.int .i64 0, .int .i64 ((inR xs k a b).length : Nat), .slice A2 (inR xs k a b).length c2] #[.int .i64 0, .int .i64 ((inR xs k b v).length : Nat), .slice A3 (inR xs k b v).length c3] wr wr.drew := ⟨K1, K2, K3, bl_drew (Below.refl _ _)⟩
            have l1 := inR_le xs k a v
            have l2 := inR_le xs k a b
            have l3 := inR_le xs k b v
            have hsum := (rng_two xs k hab hbd).1
            have hlen2 : r2.length = (inR xs k a b).length := OR2.out.1.length_eq
            have hlen3 : r3.length = (inR xs k b v).length := OR3.out.1.length_eq
            have hwd2 : ∀ r ∈ r2, r.length ≤ 1000 := fun r hr => by
              obtain ⟨x, i, rfl, _⟩ := inR_mem (OR2.out.1.mem_iff.1 hr)
              simp
            have HW2 := Lib.hid hwd2
            have HEQ := Lib.hid (rng_app xs k hab hbd OR1.out OR2.out OR3.out)
            have HL1 := Lib.hid (show r1.length = (inR xs k a v).length from OR1.out.1.length_eq)
            have HL2 := Lib.hid hlen2
            have HL3 := Lib.hid hlen3
            have HSU := Lib.hid hsum
            have HLE := Lib.hid (And.intro l1 (And.intro l2 l3))
            have e1 : IntKind.i64.wrap (((inR xs k a b).length : Int) + ((inR xs k b v).length : Int)) = ((inR xs k a v).length : Int) := by rw [IntWalk.i64_in _ (by omega)]; omega
            clear K1 K2 K3 l1 l2 l3 hsum hlen2 hlen3 hwd2 OR1 OR2 OR3 HX HN H0 HR
            generalize (inR xs k a v).length = N1 at *
            generalize (inR xs k a b).length = N2 at *
            generalize (inR xs k b v).length = N3 at *
            go_wp2_with fail
            refine wp_region_held_drew (S := Rf p1 p2 #[.int .i64 0, .int .i64 N1, .slice A1 N1 c1] #[.int .i64 0, .int .i64 N2, .slice A2 N2 c2] #[.int .i64 0, .int .i64 N3, .slice A3 N3 c3] wr) (by kernel_rfl) HD (fun hHeld => ?_)
            clear HD
            simp only [List.size_toArray, List.length_cons, List.length_nil]
            (refine held_take (i := 0) (v := ?_) rfl (by kernel_rfl) (by kernel_rfl) (by kernel_rfl) (fun _ _ _ h => h) (by assumption) (by rfl) ?_ ?_; rotate_left; (focus (intro w hSw; (try dsimp only at hSw); go_simp; try with_reducible rfl)); (try simp only [Act.put, List.setIfInBounds_toArray, List.set_cons_zero, List.set_cons_succ]))
            (refine held_take (i := 1) (v := ?_) rfl (by kernel_rfl) (by kernel_rfl) (by kernel_rfl) (fun _ _ _ h => h) (by assumption) (by rfl) ?_ ?_; rotate_left; (focus (intro w hSw; have hq := (blk_rules hSw.1).1; (try dsimp only at hSw); go_simp; try with_reducible rfl)); (try simp only [Act.put, List.setIfInBounds_toArray, List.set_cons_zero, List.set_cons_succ]))
            (refine held_take (i := 2) (v := ?_) rfl (by kernel_rfl) (by kernel_rfl) (by kernel_rfl) (fun _ _ _ h => h) (by assumption) (by rfl) ?_ ?_; rotate_left; (focus (intro w hSw; (try dsimp only at hSw); go_simp; try with_reducible rfl)); (try simp only [Act.put, List.setIfInBounds_toArray, List.set_cons_zero, List.set_cons_succ]))
            (refine held_take (i := 3) (v := ?_) rfl (by kernel_rfl) (by kernel_rfl) (by kernel_rfl) (fun _ _ _ h => h) (by assumption) (by rfl) ?_ ?_; rotate_left; (focus (intro w hSw; have hq := (blk_rules hSw.2.1).1; (try dsimp only at hSw); go_simp; try with_reducible rfl)); (try simp only [Act.put, List.setIfInBounds_toArray, List.set_cons_zero, List.set_cons_succ]))
            (refine held_take (i := 4) (v := ?_) rfl (by kernel_rfl) (by kernel_rfl) (by kernel_rfl) (fun _ _ _ h => h) (by assumption) (by rfl) ?_ ?_; rotate_left; (focus (intro w hSw; (try dsimp only at hSw); go_simp; try with_reducible rfl)); (try simp only [Act.put, List.setIfInBounds_toArray, List.set_cons_zero, List.set_cons_succ]))
            (refine held_take (i := 5) (v := ?_) rfl (by kernel_rfl) (by kernel_rfl) (by kernel_rfl) (fun _ _ _ h => h) (by assumption) (by rfl) ?_ ?_; rotate_left; (focus (intro w hSw; have hq := (blk_rules hSw.2.2.1).1; (try dsimp only at hSw); go_simp; try with_reducible rfl)); (try simp only [Act.put, List.setIfInBounds_toArray, List.set_cons_zero, List.set_cons_succ]))
            (refine held_take (i := 6) (v := ?_) rfl (by kernel_rfl) (by kernel_rfl) (by kernel_rfl) (fun _ _ _ h => h) (by assumption) (by rfl) ?_ ?_; rotate_left; (focus (intro w hSw; (try dsimp only at hSw); go_simp; try with_reducible rfl)); (try simp only [Act.put, List.setIfInBounds_toArray, List.set_cons_zero, List.set_cons_succ]))
            (refine held_take (i := 7) (v := ?_) rfl (by kernel_rfl) (by kernel_rfl) (by kernel_rfl) (fun _ _ _ h => h) (by assumption) (by rfl) ?_ ?_; rotate_left; (focus (intro w hSw; (try dsimp only at hSw); go_simp; try with_reducible rfl)); (try simp only [Act.put, List.setIfInBounds_toArray, List.set_cons_zero, List.set_cons_succ]))
            (refine held_take (i := 8) (v := ?_) rfl (by kernel_rfl) (by kernel_rfl) (by kernel_rfl) (fun _ _ _ h => h) (by assumption) (by rfl) ?_ ?_; rotate_left; (focus (intro w hSw; (try dsimp only at hSw); go_simp; try with_reducible rfl)); (try simp only [Act.put, List.setIfInBounds_toArray, List.set_cons_zero, List.set_cons_succ]))
            (refine held_take (i := 9) (v := ?_) rfl (by kernel_rfl) (by kernel_rfl) (by kernel_rfl) (fun _ _ _ h => h) (by assumption) (by rfl) ?_ ?_; rotate_left; (focus (intro w hSw; (try dsimp only at hSw); go_simp; try with_reducible rfl)); (try simp only [Act.put, List.setIfInBounds_toArray, List.set_cons_zero, List.set_cons_succ]))
            (refine held_take (i := 10) (v := ?_) rfl (by kernel_rfl) (by kernel_rfl) (by kernel_rfl) (fun _ _ _ h => h) (by assumption) (by rfl) ?_ ?_; rotate_left; (focus (intro w hSw; have hq := (blk_rules hSw.1).1; (try dsimp only at hSw); go_simp; try with_reducible rfl)); (try simp only [Act.put, List.setIfInBounds_toArray, List.set_cons_zero, List.set_cons_succ]))
            (refine held_take (i := 11) (v := ?_) rfl (by kernel_rfl) (by kernel_rfl) (by kernel_rfl) (fun _ _ _ h => h) (by assumption) (by rfl) ?_ ?_; rotate_left; (focus (intro w hSw; (try dsimp only at hSw); go_simp; try with_reducible rfl)); (try simp only [Act.put, List.setIfInBounds_toArray, List.set_cons_zero, List.set_cons_succ]))
            (refine held_take (i := 12) (v := ?_) rfl (by kernel_rfl) (by kernel_rfl) (by kernel_rfl) (fun _ _ _ h => h) (by assumption) (by rfl) ?_ ?_; rotate_left; (focus (intro w hSw; (try dsimp only at hSw); go_simp; try with_reducible rfl)); (try simp only [Act.put, List.setIfInBounds_toArray, List.set_cons_zero, List.set_cons_succ]))
            (refine held_take (i := 13) (v := ?_) rfl (by kernel_rfl) (by kernel_rfl) (by kernel_rfl) (fun _ _ _ h => h) (by assumption) (by rfl) ?_ ?_; rotate_left; (focus (intro w hSw; (try dsimp only at hSw); go_simp; try with_reducible rfl)); (try simp only [Act.put, List.setIfInBounds_toArray, List.set_cons_zero, List.set_cons_succ]))
            (refine held_take (i := 14) (v := ?_) rfl (by kernel_rfl) (by kernel_rfl) (by kernel_rfl) (fun _ _ _ h => h) (by assumption) (by rfl) ?_ ?_; rotate_left; (focus (intro w hSw; (try dsimp only at hSw); go_simp; try with_reducible rfl)); (try simp only [Act.put, List.setIfInBounds_toArray, List.set_cons_zero, List.set_cons_succ]))
            (refine held_take (i := 15) (v := ?_) rfl (by kernel_rfl) (by kernel_rfl) (by kernel_rfl) (fun _ _ _ h => h) (by assumption) (by rfl) ?_ ?_; rotate_left; (focus (intro w hSw; (try dsimp only at hSw); go_simp; try with_reducible rfl)); (try simp only [Act.put, List.setIfInBounds_toArray, List.set_cons_zero, List.set_cons_succ]))
            (refine held_take (i := 16) (v := ?_) rfl (by kernel_rfl) (by kernel_rfl) (by kernel_rfl) (fun _ _ _ h => h) (by assumption) (by rfl) ?_ ?_; rotate_left; (focus (intro w hSw; have hq := (blk_rules hSw.1).1; (try dsimp only at hSw); go_simp; try with_reducible rfl)); (try simp only [Act.put, List.setIfInBounds_toArray, List.set_cons_zero, List.set_cons_succ]))
            (refine held_take (i := 17) (v := ?_) rfl (by kernel_rfl) (by kernel_rfl) (by kernel_rfl) (fun _ _ _ h => h) (by assumption) (by rfl) ?_ ?_; rotate_left; (focus (intro w hSw; (try dsimp only at hSw); go_simp; try with_reducible rfl)); (try simp only [Act.put, List.setIfInBounds_toArray, List.set_cons_zero, List.set_cons_succ]))
            (refine held_take (i := 18) (v := ?_) rfl (by kernel_rfl) (by kernel_rfl) (by kernel_rfl) (fun _ _ _ h => h) (by assumption) (by rfl) ?_ ?_; rotate_left; (focus (intro w hSw; have hq := (blk_rules hSw.2.1).1; (try dsimp only at hSw); go_simp; try with_reducible rfl)); (try simp only [Act.put, List.setIfInBounds_toArray, List.set_cons_zero, List.set_cons_succ]))
            (refine held_take (i := 20) (v := ?_) rfl (by kernel_rfl) (by kernel_rfl) (by kernel_rfl) (fun _ _ _ h => h) (by assumption) (by rfl) ?_ ?_; rotate_left; (focus (intro w hSw; (try dsimp only at hSw); go_simp; try with_reducible rfl)); (try simp only [Act.put, List.setIfInBounds_toArray, List.set_cons_zero, List.set_cons_succ]))
            (refine held_take (i := 21) (v := ?_) rfl (by kernel_rfl) (by kernel_rfl) (by kernel_rfl) (fun _ _ _ h => h) (by assumption) (by rfl) ?_ ?_; rotate_left; (focus (intro w hSw; have hq := (blk_rules hSw.2.2.1).1; (try dsimp only at hSw); go_simp; try with_reducible rfl)); (try simp only [Act.put, List.setIfInBounds_toArray, List.set_cons_zero, List.set_cons_succ]))
            refine wpAnyH_ready (rs := [19]) (by kernel_rfl) (by simp) ?_
            refine held_step (i := 19) rfl (fun K hK => ?_) AllReadyH.nil
            go_simp
            refine (copyRows_any (fun _ => True) _ r2 wr.drew (T2.out.keep (bl_drew (Below.refl _ _))) (by have := HL2.out; have := HLE.out.2.1; omega) HW2.out).mono ?_
            rintro e w9 ⟨V9, rfl, hrc, hb9⟩
            have H9 := Lib.hid hrc
            have HB9 := Lib.hid hb9
            have HH := Lib.hid hHeld
            refine hK.out _ _ (hHeld.step hb9) (fun hH => ?_)
            clear hK K hHeld hb9 hrc
            have hHeld := hH
            clear hH
            (try simp only [Act.put, List.setIfInBounds_toArray, List.set_cons_zero, List.set_cons_succ])
            obtain ⟨A8, c8, w8, hrun, hrd, hb8⟩ := app_rows wr.drew w9 V9 A3 N3 c3 r2 r3 H9.out HB9.out (T3.out.keep (bl_drew (Below.refl _ _))) (by have := HL2.out; have := HL3.out; have := HLE.out.2.1; have := HLE.out.2.2; omega) 27
            have HRD := Lib.hid hrd
            have HB8 := Lib.hid hb8
            clear hrd hb8
            refine wpAnyH_ready (rs := [22]) (by kernel_rfl) (by simp) ?_
            refine held_step (i := 22) rfl (fun K hK => ?_) AllReadyH.nil
            rw [if_pos (by rfl)]
            refine wp_oper_app (v := V9) (v2 := .slice A3 N3 c3) rfl (by rfl) (by rfl) hrun ?_
            refine hK.out _ _ (HH.out.step HB8.out) (fun hH => ?_)
            clear hK K hHeld hrun
            have hHeld := hH
            clear hH HH
            (try simp only [Act.put, List.setIfInBounds_toArray, List.set_cons_zero, List.set_cons_succ])
            refine wpAnyH_ready (rs := [23]) (by kernel_rfl) (by simp) ?_
            refine held_step (i := 23) rfl (fun K hK => ?_) AllReadyH.nil
            go_simp
            have hq : RdR w8 A1 N1 r1 := by
              obtain ⟨Aq, cq, hv, hq⟩ := (T1.out.keep (bl_drew (Below.refl _ _))).rdR
              injection hv with i1 i2 i3
              rw [i1, i2]; exact hq.keep HB8.out
            refine (keepRows_any A1 A8 N1 c1 _ c8 r1 (r2 ++ r3) w8 hq HRD.out).mono ?_
            rintro e w10 ⟨rfl, hb10⟩
            rw [show decide (r1 = r2 ++ r3) = true from decide_eq_true HEQ.out]
            refine hK.out _ _ (hHeld.step hb10) (fun hH => ?_)
            clear hK K hHeld hb10 hq
            have hHeld := hH
            clear hH
            (try simp only [Act.put, List.setIfInBounds_toArray, List.set_cons_zero, List.set_cons_succ])
            (refine held_take (i := 24) (v := ?_) rfl (by kernel_rfl) (by kernel_rfl) (by kernel_rfl) (fun _ _ _ h => h) (by assumption) (by rfl) ?_ ?_; rotate_left; (focus (intro w hSw; (try dsimp only at hSw); go_simp; try with_reducible rfl)); (try simp only [Act.put, List.setIfInBounds_toArray, List.set_cons_zero, List.set_cons_succ]))
            (refine held_take (i := 25) (v := ?_) rfl (by kernel_rfl) (by kernel_rfl) (by kernel_rfl) (fun _ _ _ h => h) (by assumption) (by rfl) ?_ ?_; rotate_left; (focus (intro w hSw; (try dsimp only at hSw); go_simp; try with_reducible rfl)); (try simp only [Act.put, List.setIfInBounds_toArray, List.set_cons_zero, List.set_cons_succ]))
            refine wpAnyH_ready (rs := [26]) (by kernel_rfl) (by simp) ?_
            refine held_step (i := 26) rfl (fun K hK => ?_) AllReadyH.nil
            go_simp
            refine (wakes_any _).mono ?_
            rintro e w11 ⟨rfl, hb11⟩
            refine hK.out _ _ (hHeld.step hb11) (fun hH => ?_)
            clear hK K hHeld hb11
            have hHeld := hH
            clear hH
            (try simp only [Act.put, List.setIfInBounds_toArray, List.set_cons_zero, List.set_cons_succ])
            (refine held_take (i := 27) (v := ?_) rfl (by kernel_rfl) (by kernel_rfl) (by kernel_rfl) (fun _ _ _ h => h) (by assumption) (by rfl) ?_ ?_; rotate_left; (focus (intro w hSw; (try dsimp only at hSw); go_simp; try with_reducible rfl)); (try simp only [Act.put, List.setIfInBounds_toArray, List.set_cons_zero, List.set_cons_succ]))
            (refine held_take (i := 28) (v := ?_) rfl (by kernel_rfl) (by kernel_rfl) (by kernel_rfl) (fun _ _ _ h => h) (by assumption) (by rfl) ?_ ?_; rotate_left; (focus (intro w hSw; (try dsimp only at hSw); go_simp; try with_reducible rfl)); (try simp only [Act.put, List.setIfInBounds_toArray, List.set_cons_zero, List.set_cons_succ]))
            refine wpAnyH_done (by kernel_rfl) ?_ _
            have HZ := Lib.hid (bl_step BF.out hHeld.2.2.2)
            clear hHeld
            go_wp2
            go_ret
            exact ⟨rfl, HZ.out⟩
end Go.Proofs.YtbmaeaknlpgdmaaGreat
