/- A table more. -/
import Derived.Test.YtbmaeaknlpgdmaaGreatA23
namespace Go.Proofs.YtbmaeaknlpgdmaaGreat
open Go.RowKit Go.Sort Go.Lib
set_option linter.unusedVariables false
set_option linter.unusedSimpArgs false
/-- A table more, or an error's number. -/
def createM (S : List (ByteArray × Tb)) (s : St) : Int × List (ByteArray × Tb) :=
  match getS s.t S with
  | some _ => (62, S)
  | none => if 6 ≤ S.length then (3, S) else (0, S ++ [(s.t, ⟨s.cols, [], []⟩)])
def CreatePost (D : Nat → Prop) (m : Nat) (x : Int × List (ByteArray × Tb)) (w : World) (e : Ending) (w' : World) : Prop :=
  e = .returned (.int .i64 x.1) ∧ ModelAt (Dn D w w') w' m x.2 ∧ Fr D w w'
theorem look_yes {D : Nat → Prop} {w : World} {m hb : Nat} {L : List En} (h : MRep D w m hb L) {s : ByteArray} {j : Nat} {v : Value} (hg : getK s (enK L) 0 = some (j, v)) : (Instr.lookup 73 (.map (some hb)) (.string s) false).run Tryz.prog w = .ok v w := run_look_str Tryz.uTbMap Tryz.uStr h.map s hg
theorem look_no {D : Nat → Prop} {w : World} {m hb : Nat} {L : List En} (h : MRep D w m hb L) {s : ByteArray} (hg : getK s (enK L) 0 = none) : (Instr.lookup 73 (.map (some hb)) (.string s) false).run Tryz.prog w = .ok (.pointer none) w := run_look_str_none Tryz.uTbMap Tryz.uStr h.map s Tryz.zTb hg
/-- What a statement boxed and a model keep. -/
abbrev CS (D : Nat → Prop) (m hb : Nat) (L : List En) (s : St) (R C : Value) (w w' : World) : Prop := MRep D w' m hb L ∧ w'.heap[w.heap.size]? = some (.cells (s.row16 R C) 37 (0, 0)) ∧ Below w.heap.size w w'
theorem CS.drew_ {D : Nat → Prop} {m hb : Nat} {L : List En} {s : St} {R C : Value} {w w' : World} (h : CS D m hb L s R C w w') : CS D m hb L s R C w w'.drew := ⟨h.1.keep (bl_drew (Below.refl _ _)), h.2.1, bl_drew h.2.2⟩
theorem CS.step {D : Nat → Prop} {m hb : Nat} {L : List En} {s : St} {R C : Value} {w w' w2 : World} (h : CS D m hb L s R C w w') (hb2 : Below w'.heap.size w' w2) : CS D m hb L s R C w w2 := ⟨h.1.keep hb2, blk_below h.2.1 hb2, bl_step h.2.2 hb2⟩
theorem create_rep {D D1 : Nat → Prop} {w W w' : World} {m hb : Nat} {L : List En} {s : St} {tb : Nat} (h0 : MRep D w m hb L) (h : MRep D W m hb L) (hW : Below w.heap.size w W) (ht : TbAt D1 W tb ⟨s.cols, [], []⟩)
    (hD1 : ∀ b, D1 b → w.heap.size ≤ b ∧ b < W.heap.size) (hn : ∀ x ∈ L, x.name ≠ s.t) (hm : MapAt w' hb (enK L ++ [(s.t, .pointer (some ⟨tb, 0, none⟩))])) (ho : Off hb hb W w') (hz : w'.heap.size = W.heap.size) :
    ModelAt (Dn D w w') w' m (enS L ++ [(s.t, ⟨s.cols, [], []⟩)]) ∧ Fr D w w' := by
  have hdom : ∀ x ∈ L, ∀ b, x.D b → b < w.heap.size := fun x hx b hb => (h0.dom x hx b hb).2.2.2
  have hhb : hb < w.heap.size := h0.map.lt
  have hmb : m < w.heap.size := blk_lt h0.mod
  have hblk : ∀ b, b < W.heap.size → b ≠ hb → w'.heap[b]? = W.heap[b]? := fun b hb1 hb2 => ho.block b hb1 hb2 hb2
  have hws := hW.size
  refine ⟨⟨hb, L ++ [⟨s.t, tb, D1, ⟨s.cols, [], []⟩⟩], by simp [enS], ⟨.inl h.dm, .inl h.dh, (hblk m (by omega) h.ne).trans h.mod, by simpa [enK] using hm, fun x hx => ?_, fun x hx b hb' => ?_, ?_, ?_⟩⟩, fr_off (fr_below hW) ho (.inl h.dh) (.inl h.dh)⟩
  · rcases List.mem_append.1 hx with hx | hx
    · exact (h.tbs x hx).fr fun b hb' => hblk b (by have := hdom x hx b hb'; omega) (h.dom x hx b hb').2.2.1
    · simp only [List.mem_singleton] at hx
      subst hx
      exact ht.fr fun b hb' => hblk b (hD1 b hb').2 (by have := (hD1 b hb').1; omega)
  · rcases List.mem_append.1 hx with hx | hx
    · obtain ⟨a, b', c, d⟩ := h.dom x hx b hb'
      exact ⟨.inl a, b', c, by omega⟩
    · simp only [List.mem_singleton] at hx
      subst hx
      have hh := hD1 b hb'
      exact ⟨.inr ⟨hh.1, by omega⟩, by omega, by omega, by omega⟩
  · rw [List.pairwise_append]
    refine ⟨h.apart, List.pairwise_singleton _ _, fun x hx y hy b hxb hyb => ?_⟩
    simp only [List.mem_singleton] at hy
    subst hy
    have := hdom x hx b hxb
    have := (hD1 b hyb).1
    omega
  · rw [List.map_append, List.nodup_append]
    refine ⟨h.names, by simp, fun a ha c hc => ?_⟩
    obtain ⟨x, hx, rfl⟩ := List.mem_map.1 ha
    simp at hc
    subst hc
    exact hn x hx
set_option maxRecDepth 100000 in
set_option maxHeartbeats 8000000 in
theorem create_any (D : Nat → Prop) (m : Nat) (S : List (ByteArray × Tb)) (s : St) (R : Value) (B : Option Addr) (mc d : Nat) (w : World) (h : ModelAt D w m S) (hc : RdC w B mc s.cols) (hm : mc ≤ 1000) :
    Calls Tryz.prog 50 #[.pointer (some ⟨m, 0, none⟩), s.agg R (.slice B mc d)] w (CreatePost D m (createM S s) w) := by
  have HM := Lib.hid h
  obtain ⟨hb, L, rfl, hrep⟩ := h
  have HC := Lib.hid hc
  have hms := blk_lt hrep.mod
  have hhs := hrep.map.lt
  have HR := Lib.hid hrep
  clear hc
  rcases look_tb hrep s.t with ⟨hn, hnn, hg, _⟩ | ⟨j, x, hj, hxn, hy, hg, _⟩
  · clear hrep
    have HN := Lib.hid hn
    have HNN := Lib.hid hnn
    have HG := Lib.hid hg
    clear hn hnn hg
    go_enter Tryz.func50, Tryz.ntmps50
    go_upto_region 1 with fail
    have PC : CS D m hb L s R (.slice B mc d) w (w.alloc (.cells (s.row16 R (.slice B mc d)) 37)) := ⟨HR.out.keep (by (repeat (first | assumption | exact Below.refl _ _ | refine bl_drewN ?_ _ | refine bl_drew ?_ | refine bl_alloc ?_ _ | refine bl_step ?_ (by assumption)))), blk_new w _, by (repeat (first | assumption | exact Below.refl _ _ | refine bl_drewN ?_ _ | refine bl_drew ?_ | refine bl_alloc ?_ _ | refine bl_step ?_ (by assumption)))⟩
    generalize w.alloc (.cells (s.row16 R (.slice B mc d)) 37) = W0 at PC ⊢
    refine wp_region_held_drew (S := CS D m hb L s R (.slice B mc d) w) (by kernel_rfl) PC.drew_ (fun hHeld => ?_)
    have hHeld2 := PC
    have HPC := Lib.hid PC
    clear PC
    simp only [List.size_toArray, List.length_cons, List.length_nil]
    (refine held_take (i := 0) (v := ?_) rfl (by kernel_rfl) (by kernel_rfl) (by kernel_rfl) (fun _ _ _ h => h) (by assumption) (by rfl) ?_ ?_; rotate_left; (focus (intro w hSw; (try dsimp only at hSw); go_simp; try with_reducible rfl)); (try simp only [Act.put, List.setIfInBounds_toArray, List.set_cons_zero, List.set_cons_succ]))
    (refine held_take (i := 1) (v := ?_) rfl (by kernel_rfl) (by kernel_rfl) (by kernel_rfl) (fun _ _ _ h => h) (by assumption) (by rfl) ?_ ?_; rotate_left; (focus (intro w hSw; (try dsimp only at hSw); go_simp; try with_reducible rfl)); (try simp only [Act.put, List.setIfInBounds_toArray, List.set_cons_zero, List.set_cons_succ]))
    (refine held_take (i := 2) (v := ?_) rfl (by kernel_rfl) (by kernel_rfl) (by kernel_rfl) (fun _ _ _ h => h) (by assumption) (by rfl) ?_ ?_; rotate_left; (focus (intro w hSw; (try dsimp only at hSw); go_simp; try with_reducible rfl)); (try simp only [Act.put, List.setIfInBounds_toArray, List.set_cons_zero, List.set_cons_succ]))
    (refine held_take (i := 3) (v := ?_) rfl (by kernel_rfl) (by kernel_rfl) (by kernel_rfl) (fun _ _ _ h => h) (by assumption) (by rfl) ?_ ?_; rotate_left; (focus (intro w hSw; have hq := (blk_rules hSw.1.mod).1; (try dsimp only at hSw); go_simp; try with_reducible rfl)); (try simp only [Act.put, List.setIfInBounds_toArray, List.set_cons_zero, List.set_cons_succ]))
    (refine held_take (i := 4) (v := ?_) rfl (by kernel_rfl) (by kernel_rfl) (by kernel_rfl) (fun _ _ _ h => h) (by assumption) (by rfl) ?_ ?_; rotate_left; (focus (intro w hSw; (try dsimp only at hSw); go_simp; try with_reducible rfl)); (try simp only [Act.put, List.setIfInBounds_toArray, List.set_cons_zero, List.set_cons_succ]))
    (refine held_take (i := 5) (v := ?_) rfl (by kernel_rfl) (by kernel_rfl) (by kernel_rfl) (fun _ _ _ h => h) (by assumption) (by rfl) ?_ ?_; rotate_left; (focus (intro w hSw; have hq := (blk_rules hSw.2.1).1; (try dsimp only at hSw); go_simp; try with_reducible rfl)); (try simp only [Act.put, List.setIfInBounds_toArray, List.set_cons_zero, List.set_cons_succ]))
    (refine held_take (i := 6) (v := ?_) rfl (by kernel_rfl) (by kernel_rfl) (by kernel_rfl) (fun _ _ _ h => h) (by assumption) (by rfl) ?_ ?_; rotate_left; (focus (intro w hSw; have hq := look_no hSw.1 HG.out; (try dsimp only at hSw); go_simp; try with_reducible rfl)); (try simp only [Act.put, List.setIfInBounds_toArray, List.set_cons_zero, List.set_cons_succ]))
    (refine held_take (i := 7) (v := ?_) rfl (by kernel_rfl) (by kernel_rfl) (by kernel_rfl) (fun _ _ _ h => h) (by assumption) (by rfl) ?_ ?_; rotate_left; (focus (intro w hSw; (try dsimp only at hSw); go_simp; try with_reducible rfl)); (try simp only [Act.put, List.setIfInBounds_toArray, List.set_cons_zero, List.set_cons_succ]))
    (refine held_take (i := 8) (v := ?_) rfl (by kernel_rfl) (by kernel_rfl) (by kernel_rfl) (fun _ _ _ h => h) (by assumption) (by rfl) ?_ ?_; rotate_left; (focus (intro w hSw; (try dsimp only at hSw); go_simp; try with_reducible rfl)); (try simp only [Act.put, List.setIfInBounds_toArray, List.set_cons_zero, List.set_cons_succ]))
    refine wpAnyH_done (by kernel_rfl) ?_ _
    clear hHeld2 HPC
    generalize W0.drew = W at hHeld ⊢
    have HW := Lib.hid hHeld
    obtain ⟨k1, f1⟩ := blk_rules hHeld.1.mod
    have hmz := blk_lt hHeld.1.mod
    have hlen : ∀ ty, (Builtin.len_ #[73] ty #[.map (some hb)]).run Tryz.prog W = .ok (.int .i64 L.length) W := fun ty => by have := run_len_str (P := Tryz.prog) Tryz.uTbMap hHeld.1.map ty; simpa [enK] using this
    clear hHeld
    by_cases h6 : 6 ≤ L.length
    · have HE := Lib.hid (show createM (enS L) s = (3, enS L) by unfold createM; rw [HN.out]; exact if_pos (by simpa [enS] using h6))
      have h6' : (6 : Int) ≤ (L.length : Int) := by omega
      go_wp2
      go_ret
      exact ⟨by rw [HE.out]; rfl, by rw [HE.out]; exact HM.out.dn HW.out.2.2, fr_below HW.out.2.2⟩
    · have HE := Lib.hid (show createM (enS L) s = (0, enS L ++ [(s.t, ⟨s.cols, [], []⟩)]) by unfold createM; rw [HN.out]; exact if_neg (by simpa [enS] using h6))
      have h6' : (L.length : Int) < 6 := by omega
      have hmm := @run_makeMap Tryz.prog
      go_upto_region 5 with fail
      clear k1 f1 hlen
      have hWd := HW.out.drew_
      refine wp_region_held_drew (S := fun w' => w'.heap[m]? = some (.cells #[.map (some hb)] 75 (0, 0)) ∧ w'.heap[w.heap.size]? = some (.cells (s.row16 R (.slice B mc d)) 37 (0, 0))) (by kernel_rfl) ⟨hWd.1.mod, hWd.2.1⟩ (fun hHeld => ?_)
      have hHeld2 : W.heap[m]? = some (.cells #[.map (some hb)] 75 (0, 0)) ∧ W.heap[w.heap.size]? = some (.cells (s.row16 R (.slice B mc d)) 37 (0, 0)) := ⟨HW.out.1.mod, HW.out.2.1⟩
      have HWD := Lib.hid hWd
      clear hWd
      simp only [List.size_toArray, List.length_cons, List.length_nil]
      (refine held_take (i := 0) (v := ?_) rfl (by kernel_rfl) (by kernel_rfl) (by kernel_rfl) (fun _ _ _ h => h) (by assumption) (by rfl) ?_ ?_; rotate_left; (focus (intro w hSw; (try dsimp only at hSw); go_simp; try with_reducible rfl)); (try simp only [Act.put, List.setIfInBounds_toArray, List.set_cons_zero, List.set_cons_succ]))
      (refine held_take (i := 1) (v := ?_) rfl (by kernel_rfl) (by kernel_rfl) (by kernel_rfl) (fun _ _ _ h => h) (by assumption) (by rfl) ?_ ?_; rotate_left; (focus (intro w hSw; (try dsimp only at hSw); go_simp; try with_reducible rfl)); (try simp only [Act.put, List.setIfInBounds_toArray, List.set_cons_zero, List.set_cons_succ]))
      (refine held_take (i := 2) (v := ?_) rfl (by kernel_rfl) (by kernel_rfl) (by kernel_rfl) (fun _ _ _ h => h) (by assumption) (by rfl) ?_ ?_; rotate_left; (focus (intro w hSw; (try dsimp only at hSw); go_simp; try with_reducible rfl)); (try simp only [Act.put, List.setIfInBounds_toArray, List.set_cons_zero, List.set_cons_succ]))
      (refine held_take (i := 3) (v := ?_) rfl (by kernel_rfl) (by kernel_rfl) (by kernel_rfl) (fun _ _ _ h => h) (by assumption) (by rfl) ?_ ?_; rotate_left; (focus (intro w hSw; have hq := (blk_rules hSw.1).1; (try dsimp only at hSw); go_simp; try with_reducible rfl)); (try simp only [Act.put, List.setIfInBounds_toArray, List.set_cons_zero, List.set_cons_succ]))
      (refine held_take (i := 4) (v := ?_) rfl (by kernel_rfl) (by kernel_rfl) (by kernel_rfl) (fun _ _ _ h => h) (by assumption) (by rfl) ?_ ?_; rotate_left; (focus (intro w hSw; (try dsimp only at hSw); go_simp; try with_reducible rfl)); (try simp only [Act.put, List.setIfInBounds_toArray, List.set_cons_zero, List.set_cons_succ]))
      (refine held_take (i := 5) (v := ?_) rfl (by kernel_rfl) (by kernel_rfl) (by kernel_rfl) (fun _ _ _ h => h) (by assumption) (by rfl) ?_ ?_; rotate_left; (focus (intro w hSw; have hq := (blk_rules hSw.2).1; (try dsimp only at hSw); go_simp; try with_reducible rfl)); (try simp only [Act.put, List.setIfInBounds_toArray, List.set_cons_zero, List.set_cons_succ]))
      (refine held_take (i := 6) (v := ?_) rfl (by kernel_rfl) (by kernel_rfl) (by kernel_rfl) (fun _ _ _ h => h) (by assumption) (by rfl) ?_ ?_; rotate_left; (focus (intro w hSw; (try dsimp only at hSw); go_simp; try with_reducible rfl)); (try simp only [Act.put, List.setIfInBounds_toArray, List.set_cons_zero, List.set_cons_succ]))
      (refine held_take (i := 7) (v := ?_) rfl (by kernel_rfl) (by kernel_rfl) (by kernel_rfl) (fun _ _ _ h => h) (by assumption) (by rfl) ?_ ?_; rotate_left; (focus (intro w hSw; have hq := (blk_rules hSw.2).1; (try dsimp only at hSw); go_simp; try with_reducible rfl)); (try simp only [Act.put, List.setIfInBounds_toArray, List.set_cons_zero, List.set_cons_succ]))
      clear hHeld2
      have hlo0 : w.heap.size + 1 ≤ W.heap.size := blk_lt HW.out.2.1
      refine wpAnyH_ready (rs := [8, 9]) (by kernel_rfl) (by simp) ?_
      refine held_step (i := 8) rfl (fun K hK => ?_) (held_step (i := 9) rfl (fun K hK => ?_) AllReadyH.nil)
      · go_simp
        refine (cloneC B mc d s.cols _ (HC.out.keep HWD.out.2.2) (by omega)).mono ?_
        rintro e w1 ⟨A1, c1, rfl, hown1, hb1⟩
        have HC1 := HWD.out.step hb1
        refine hK.out _ _ ⟨HC1.1.mod, HC1.2.1⟩ (fun hH => ?_)
        have hlo : w.heap.size + 1 ≤ W.drew.heap.size := hlo0
        have hlo1 : w.heap.size + 1 ≤ w1.heap.size := Nat.le_trans hlo hb1.size
        clear hK K hHeld hb1 hH
        (try simp only [Act.put, List.setIfInBounds_toArray, List.set_cons_zero, List.set_cons_succ])
        refine wpAnyH_ready (rs := [9]) (by kernel_rfl) (by simp) ?_
        refine held_step (i := 9) rfl (fun K hK => ?_) AllReadyH.nil
        go_simp
        have HC2 := HC1.step (bl_alloc (Below.refl _ _) (.map #[] 0))
        refine hK.out _ _ ⟨HC2.1.mod, HC2.2.1⟩ (fun hH => ?_)
        clear hK K
        (try simp only [Act.put, List.setIfInBounds_toArray, List.set_cons_zero, List.set_cons_succ])
        have hHeld2 := hH
        (refine held_take (i := 10) (v := ?_) rfl (by kernel_rfl) (by kernel_rfl) (by kernel_rfl) (fun _ _ _ h => h) (by assumption) (by rfl) ?_ ?_; rotate_left; (focus (intro w hSw; (try dsimp only at hSw); go_simp; try with_reducible rfl)); (try simp only [Act.put, List.setIfInBounds_toArray, List.set_cons_zero, List.set_cons_succ]))
        clear hHeld2 hH
        refine wpAnyH_ready (rs := [11]) (by kernel_rfl) (by simp) ?_
        refine held_step (i := 11) rfl (fun K hK => ?_) AllReadyH.nil
        go_simp
        have HC3 := HC2.step (bl_alloc (Below.refl _ _) (.cells #[.slice A1 mc c1, .slice none 0 0, .map (some w1.heap.size)] 110))
        refine hK.out _ _ ⟨HC3.1.mod, HC3.2.1⟩ (fun hH => ?_)
        clear hK K hH
        (try simp only [Act.put, List.setIfInBounds_toArray, List.set_cons_zero, List.set_cons_succ])
        have HTB : ((w1.alloc (.map #[] 0)).alloc (.cells #[.slice A1 mc c1, .slice none 0 0, .map (some w1.heap.size)] 110)).heap[w1.heap.size + 1]? = some (.cells #[.slice A1 mc c1, .slice none 0 0, .map (some w1.heap.size)] 110 (0, 0)) := by
          have hh := blk_new (w1.alloc (.map #[] 0)) (.cells #[.slice A1 mc c1, .slice none 0 0, .map (some w1.heap.size)] 110)
          rwa [szal] at hh
        have HMI := (mapAt_new w1).keep (bl_alloc (Below.refl _ _) (.cells #[.slice A1 mc c1, .slice none 0 0, .map (some w1.heap.size)] 110))
        have HOC := (hown1.alloc_ (.map #[] 0)).alloc_ (.cells #[.slice A1 mc c1, .slice none 0 0, .map (some w1.heap.size)] 110)
        have HC4 := HC3
        clear HC1 HC2 HC3 hown1
        generalize (w1.alloc (.map #[] 0)).alloc (.cells #[.slice A1 mc c1, .slice none 0 0, .map (some w1.heap.size)] 110) = W4 at HTB HMI HOC HC4 ⊢
        obtain ⟨ib, hib⟩ : ∃ ib, w1.heap.size = ib := ⟨_, rfl⟩
        obtain ⟨tb, htb⟩ : ∃ tb, w1.heap.size + 1 = tb := ⟨_, rfl⟩
        have htl : w.heap.size + 1 ≤ tb := by omega
        have hil : w.heap.size + 1 ≤ ib := by omega
        rw [htb] at HTB ⊢
        rw [hib] at HTB HMI
        clear htb hib hlo1
        have hTB : TbAt (fun b => w.heap.size + 1 ≤ b ∧ b < W4.heap.size) W4 tb ⟨s.cols, [], []⟩ := ⟨ib, .slice A1 mc c1, .slice none 0 0, ⟨htl, blk_lt HTB⟩, ⟨hil, HMI.lt⟩, HTB, SlD.of_own HOC (fun b h1 h2 => ⟨Nat.le_trans hlo h1, h2⟩), rowsD_nil, HMI⟩
        obtain ⟨w9, hrun, hm9, ho9, hz9⟩ := run_ins_str (P := Tryz.prog) Tryz.uTbMap Tryz.uStr HC4.1.map s.t (.pointer (some ⟨tb, 0, none⟩)) HG.out
        have hfin := create_rep (s := s) HR.out HC4.1 HC4.2.2 hTB (fun b hb' => ⟨by have := hb'.1; omega, hb'.2⟩) HNN.out hm9 ho9 hz9
        clear hTB HTB HMI HOC
        refine wpAnyH_ready (rs := [12]) (by kernel_rfl) (by simp) ?_
        refine held_step (i := 12) rfl (fun K hK => ?_) AllReadyH.nil
        go_simp
        refine hK.out _ _ ⟨off_blk ho9 HC4.1.mod HR.out.ne HR.out.ne, off_blk ho9 HC4.2.1 (by omega) (by omega)⟩ (fun hH => ?_)
        clear hK K hH hrun hm9 ho9 hz9
        (try simp only [Act.put, List.setIfInBounds_toArray, List.set_cons_zero, List.set_cons_succ])
        refine wpAnyH_done (by kernel_rfl) ?_ _
        have HFIN := Lib.hid hfin
        clear hfin HC4
        go_wp2
        go_ret
        exact ⟨by rw [HE.out]; rfl, by rw [HE.out]; exact HFIN.out.1, HFIN.out.2⟩
      · go_simp
        have HC1 := HWD.out.step (bl_alloc (Below.refl _ _) (.map #[] 0))
        have hN := mapAt_new W.drew
        refine hK.out _ _ ⟨HC1.1.mod, HC1.2.1⟩ (fun hH => ?_)
        have hlo : w.heap.size + 1 ≤ (W.drew.alloc (.map #[] 0)).heap.size := by rw [szal]; exact Nat.le_succ_of_le hlo0
        clear hK K hHeld
        (try simp only [Act.put, List.setIfInBounds_toArray, List.set_cons_zero, List.set_cons_succ])
        refine wpAnyH_ready (rs := [8]) (by kernel_rfl) (by simp) ?_
        refine held_step (i := 8) rfl (fun K hK => ?_) AllReadyH.nil
        go_simp
        refine (cloneC B mc d s.cols _ (HC.out.keep HC1.2.2) (by omega)).mono ?_
        rintro e w1 ⟨A1, c1, rfl, hown1, hb1⟩
        have HC2 := HC1.step hb1
        have HMI1 := hN.keep hb1
        refine hK.out _ _ ⟨HC2.1.mod, HC2.2.1⟩ (fun hHx => ?_)
        have hlo1 : w.heap.size + 1 ≤ w1.heap.size := Nat.le_trans hlo hb1.size
        clear hK K hb1 hH
        have hH := hHx
        clear hHx
        (try simp only [Act.put, List.setIfInBounds_toArray, List.set_cons_zero, List.set_cons_succ])
        have hHeld2 := hH
        (refine held_take (i := 10) (v := ?_) rfl (by kernel_rfl) (by kernel_rfl) (by kernel_rfl) (fun _ _ _ h => h) (by assumption) (by rfl) ?_ ?_; rotate_left; (focus (intro w hSw; (try dsimp only at hSw); go_simp; try with_reducible rfl)); (try simp only [Act.put, List.setIfInBounds_toArray, List.set_cons_zero, List.set_cons_succ]))
        clear hHeld2 hH
        refine wpAnyH_ready (rs := [11]) (by kernel_rfl) (by simp) ?_
        refine held_step (i := 11) rfl (fun K hK => ?_) AllReadyH.nil
        go_simp
        have HC3 := HC2.step (bl_alloc (Below.refl _ _) (.cells #[.slice A1 mc c1, .slice none 0 0, .map (some W.heap.size)] 110))
        refine hK.out _ _ ⟨HC3.1.mod, HC3.2.1⟩ (fun hH => ?_)
        clear hK K hH
        (try simp only [Act.put, List.setIfInBounds_toArray, List.set_cons_zero, List.set_cons_succ])
        have HTB := blk_new w1 (.cells #[.slice A1 mc c1, .slice none 0 0, .map (some W.heap.size)] 110)
        have HMI : MapAt (w1.alloc (.cells #[.slice A1 mc c1, .slice none 0 0, .map (some W.heap.size)] 110)) W.heap.size [] := HMI1.keep (bl_alloc (Below.refl _ _) (.cells #[.slice A1 mc c1, .slice none 0 0, .map (some W.heap.size)] 110))
        have HOC := hown1.alloc_ (.cells #[.slice A1 mc c1, .slice none 0 0, .map (some W.heap.size)] 110)
        have HC4 := HC3
        clear HC1 HC2 HC3 hown1 HMI1 hN
        generalize w1.alloc (.cells #[.slice A1 mc c1, .slice none 0 0, .map (some W.heap.size)] 110) = W4 at HTB HMI HOC HC4 ⊢
        obtain ⟨ib, hib⟩ : ∃ ib, W.heap.size = ib := ⟨_, rfl⟩
        obtain ⟨tb, htb⟩ : ∃ tb, w1.heap.size = tb := ⟨_, rfl⟩
        have htl : w.heap.size + 1 ≤ tb := by omega
        have hil : w.heap.size + 1 ≤ ib := by omega
        rw [htb] at HTB ⊢
        rw [hib] at HTB HMI
        clear htb hib hlo1
        have hTB : TbAt (fun b => w.heap.size + 1 ≤ b ∧ b < W4.heap.size) W4 tb ⟨s.cols, [], []⟩ := ⟨ib, .slice A1 mc c1, .slice none 0 0, ⟨htl, blk_lt HTB⟩, ⟨hil, HMI.lt⟩, HTB, SlD.of_own HOC (fun b h1 h2 => ⟨Nat.le_trans hlo h1, h2⟩), rowsD_nil, HMI⟩
        obtain ⟨w9, hrun, hm9, ho9, hz9⟩ := run_ins_str (P := Tryz.prog) Tryz.uTbMap Tryz.uStr HC4.1.map s.t (.pointer (some ⟨tb, 0, none⟩)) HG.out
        have hfin := create_rep (s := s) HR.out HC4.1 HC4.2.2 hTB (fun b hb' => ⟨by have := hb'.1; omega, hb'.2⟩) HNN.out hm9 ho9 hz9
        clear hTB HTB HMI HOC
        refine wpAnyH_ready (rs := [12]) (by kernel_rfl) (by simp) ?_
        refine held_step (i := 12) rfl (fun K hK => ?_) AllReadyH.nil
        go_simp
        refine hK.out _ _ ⟨off_blk ho9 HC4.1.mod HR.out.ne HR.out.ne, off_blk ho9 HC4.2.1 (by omega) (by omega)⟩ (fun hH => ?_)
        clear hK K hH hrun hm9 ho9 hz9
        (try simp only [Act.put, List.setIfInBounds_toArray, List.set_cons_zero, List.set_cons_succ])
        refine wpAnyH_done (by kernel_rfl) ?_ _
        have HFIN := Lib.hid hfin
        clear hfin HC4
        go_wp2
        go_ret
        exact ⟨by rw [HE.out]; rfl, by rw [HE.out]; exact HFIN.out.1, HFIN.out.2⟩
  · have HE := Lib.hid (show createM (enS L) s = (62, enS L) by unfold createM; rw [hy])
    have HG := Lib.hid hg
    clear hrep hg hy hj
    go_enter Tryz.func50, Tryz.ntmps50
    go_upto_region 1 with fail
    have PC : CS D m hb L s R (.slice B mc d) w (w.alloc (.cells (s.row16 R (.slice B mc d)) 37)) := ⟨HR.out.keep (by (repeat (first | assumption | exact Below.refl _ _ | refine bl_drewN ?_ _ | refine bl_drew ?_ | refine bl_alloc ?_ _ | refine bl_step ?_ (by assumption)))), blk_new w _, by (repeat (first | assumption | exact Below.refl _ _ | refine bl_drewN ?_ _ | refine bl_drew ?_ | refine bl_alloc ?_ _ | refine bl_step ?_ (by assumption)))⟩
    generalize w.alloc (.cells (s.row16 R (.slice B mc d)) 37) = W0 at PC ⊢
    refine wp_region_held_drew (S := CS D m hb L s R (.slice B mc d) w) (by kernel_rfl) PC.drew_ (fun hHeld => ?_)
    have hHeld2 := PC
    clear PC
    simp only [List.size_toArray, List.length_cons, List.length_nil]
    (refine held_take (i := 0) (v := ?_) rfl (by kernel_rfl) (by kernel_rfl) (by kernel_rfl) (fun _ _ _ h => h) (by assumption) (by rfl) ?_ ?_; rotate_left; (focus (intro w hSw; (try dsimp only at hSw); go_simp; try with_reducible rfl)); (try simp only [Act.put, List.setIfInBounds_toArray, List.set_cons_zero, List.set_cons_succ]))
    (refine held_take (i := 1) (v := ?_) rfl (by kernel_rfl) (by kernel_rfl) (by kernel_rfl) (fun _ _ _ h => h) (by assumption) (by rfl) ?_ ?_; rotate_left; (focus (intro w hSw; (try dsimp only at hSw); go_simp; try with_reducible rfl)); (try simp only [Act.put, List.setIfInBounds_toArray, List.set_cons_zero, List.set_cons_succ]))
    (refine held_take (i := 2) (v := ?_) rfl (by kernel_rfl) (by kernel_rfl) (by kernel_rfl) (fun _ _ _ h => h) (by assumption) (by rfl) ?_ ?_; rotate_left; (focus (intro w hSw; (try dsimp only at hSw); go_simp; try with_reducible rfl)); (try simp only [Act.put, List.setIfInBounds_toArray, List.set_cons_zero, List.set_cons_succ]))
    (refine held_take (i := 3) (v := ?_) rfl (by kernel_rfl) (by kernel_rfl) (by kernel_rfl) (fun _ _ _ h => h) (by assumption) (by rfl) ?_ ?_; rotate_left; (focus (intro w hSw; have hq := (blk_rules hSw.1.mod).1; (try dsimp only at hSw); go_simp; try with_reducible rfl)); (try simp only [Act.put, List.setIfInBounds_toArray, List.set_cons_zero, List.set_cons_succ]))
    (refine held_take (i := 4) (v := ?_) rfl (by kernel_rfl) (by kernel_rfl) (by kernel_rfl) (fun _ _ _ h => h) (by assumption) (by rfl) ?_ ?_; rotate_left; (focus (intro w hSw; (try dsimp only at hSw); go_simp; try with_reducible rfl)); (try simp only [Act.put, List.setIfInBounds_toArray, List.set_cons_zero, List.set_cons_succ]))
    (refine held_take (i := 5) (v := ?_) rfl (by kernel_rfl) (by kernel_rfl) (by kernel_rfl) (fun _ _ _ h => h) (by assumption) (by rfl) ?_ ?_; rotate_left; (focus (intro w hSw; have hq := (blk_rules hSw.2.1).1; (try dsimp only at hSw); go_simp; try with_reducible rfl)); (try simp only [Act.put, List.setIfInBounds_toArray, List.set_cons_zero, List.set_cons_succ]))
    (refine held_take (i := 6) (v := ?_) rfl (by kernel_rfl) (by kernel_rfl) (by kernel_rfl) (fun _ _ _ h => h) (by assumption) (by rfl) ?_ ?_; rotate_left; (focus (intro w hSw; have hq := look_yes hSw.1 HG.out; (try dsimp only at hSw); go_simp; try with_reducible rfl)); (try simp only [Act.put, List.setIfInBounds_toArray, List.set_cons_zero, List.set_cons_succ]))
    (refine held_take (i := 7) (v := ?_) rfl (by kernel_rfl) (by kernel_rfl) (by kernel_rfl) (fun _ _ _ h => h) (by assumption) (by rfl) ?_ ?_; rotate_left; (focus (intro w hSw; (try dsimp only at hSw); go_simp; try with_reducible rfl)); (try simp only [Act.put, List.setIfInBounds_toArray, List.set_cons_zero, List.set_cons_succ]))
    (refine held_take (i := 8) (v := ?_) rfl (by kernel_rfl) (by kernel_rfl) (by kernel_rfl) (fun _ _ _ h => h) (by assumption) (by rfl) ?_ ?_; rotate_left; (focus (intro w hSw; (try dsimp only at hSw); go_simp; try with_reducible rfl)); (try simp only [Act.put, List.setIfInBounds_toArray, List.set_cons_zero, List.set_cons_succ]))
    refine wpAnyH_done (by kernel_rfl) ?_ _
    have HW := Lib.hid hHeld
    clear hHeld hHeld2
    go_wp2
    go_ret
    exact ⟨by rw [HE.out]; rfl, by rw [HE.out]; exact HM.out.dn HW.out.2.2, fr_below HW.out.2.2⟩
end Go.Proofs.YtbmaeaknlpgdmaaGreat
