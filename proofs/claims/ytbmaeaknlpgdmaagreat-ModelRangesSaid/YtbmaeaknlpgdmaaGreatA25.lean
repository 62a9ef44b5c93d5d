/- The functions that Do chooses among, by a statement's kind. -/
import Derived.Test.YtbmaeaknlpgdmaaGreatA24
namespace Go.Proofs.YtbmaeaknlpgdmaaGreat
open Go.RowKit Go.Sort Go.Lib
set_option linter.unusedVariables false
set_option linter.unusedSimpArgs false
theorem Tryz.uDoes : Tryz.prog.underlying 80 = some (.map 3 82) := by kernel_rfl
abbrev md0 : Array MapEntry := #[]
abbrev md1 : Array MapEntry := #[⟨.int .i64 4, .func (.func 38) #[] #[], 0⟩]
abbrev md2 : Array MapEntry := #[⟨.int .i64 4, .func (.func 38) #[] #[], 0⟩, ⟨.int .i64 7, .func (.func 39) #[] #[], 1⟩]
abbrev md3 : Array MapEntry := #[⟨.int .i64 4, .func (.func 38) #[] #[], 0⟩, ⟨.int .i64 7, .func (.func 39) #[] #[], 1⟩, ⟨.int .i64 8, .func (.func 39) #[] #[], 2⟩]
abbrev md4 : Array MapEntry := #[⟨.int .i64 4, .func (.func 38) #[] #[], 0⟩, ⟨.int .i64 7, .func (.func 39) #[] #[], 1⟩, ⟨.int .i64 8, .func (.func 39) #[] #[], 2⟩, ⟨.int .i64 9, .func (.func 40) #[] #[], 3⟩]
abbrev md5 : Array MapEntry := #[⟨.int .i64 4, .func (.func 38) #[] #[], 0⟩, ⟨.int .i64 7, .func (.func 39) #[] #[], 1⟩, ⟨.int .i64 8, .func (.func 39) #[] #[], 2⟩, ⟨.int .i64 9, .func (.func 40) #[] #[], 3⟩, ⟨.int .i64 6, .func (.func 41) #[] #[], 4⟩]
abbrev md6 : Array MapEntry := #[⟨.int .i64 4, .func (.func 38) #[] #[], 0⟩, ⟨.int .i64 7, .func (.func 39) #[] #[], 1⟩, ⟨.int .i64 8, .func (.func 39) #[] #[], 2⟩, ⟨.int .i64 9, .func (.func 40) #[] #[], 3⟩, ⟨.int .i64 6, .func (.func 41) #[] #[], 4⟩, ⟨.int .i64 5, .func (.func 42) #[] #[], 5⟩]
abbrev md7 : Array MapEntry := #[⟨.int .i64 4, .func (.func 38) #[] #[], 0⟩, ⟨.int .i64 7, .func (.func 39) #[] #[], 1⟩, ⟨.int .i64 8, .func (.func 39) #[] #[], 2⟩, ⟨.int .i64 9, .func (.func 40) #[] #[], 3⟩, ⟨.int .i64 6, .func (.func 41) #[] #[], 4⟩, ⟨.int .i64 5, .func (.func 42) #[] #[], 5⟩, ⟨.int .i64 11, .func (.func 43) #[] #[], 6⟩]
abbrev md8 : Array MapEntry := #[⟨.int .i64 4, .func (.func 38) #[] #[], 0⟩, ⟨.int .i64 7, .func (.func 39) #[] #[], 1⟩, ⟨.int .i64 8, .func (.func 39) #[] #[], 2⟩, ⟨.int .i64 9, .func (.func 40) #[] #[], 3⟩, ⟨.int .i64 6, .func (.func 41) #[] #[], 4⟩, ⟨.int .i64 5, .func (.func 42) #[] #[], 5⟩, ⟨.int .i64 11, .func (.func 43) #[] #[], 6⟩, ⟨.int .i64 12, .func (.func 44) #[] #[], 7⟩]
abbrev md9 : Array MapEntry := #[⟨.int .i64 4, .func (.func 38) #[] #[], 0⟩, ⟨.int .i64 7, .func (.func 39) #[] #[], 1⟩, ⟨.int .i64 8, .func (.func 39) #[] #[], 2⟩, ⟨.int .i64 9, .func (.func 40) #[] #[], 3⟩, ⟨.int .i64 6, .func (.func 41) #[] #[], 4⟩, ⟨.int .i64 5, .func (.func 42) #[] #[], 5⟩, ⟨.int .i64 11, .func (.func 43) #[] #[], 6⟩, ⟨.int .i64 12, .func (.func 44) #[] #[], 7⟩, ⟨.int .i64 15, .func (.func 45) #[] #[], 8⟩]
abbrev md10 : Array MapEntry := #[⟨.int .i64 4, .func (.func 38) #[] #[], 0⟩, ⟨.int .i64 7, .func (.func 39) #[] #[], 1⟩, ⟨.int .i64 8, .func (.func 39) #[] #[], 2⟩, ⟨.int .i64 9, .func (.func 40) #[] #[], 3⟩, ⟨.int .i64 6, .func (.func 41) #[] #[], 4⟩, ⟨.int .i64 5, .func (.func 42) #[] #[], 5⟩, ⟨.int .i64 11, .func (.func 43) #[] #[], 6⟩, ⟨.int .i64 12, .func (.func 44) #[] #[], 7⟩, ⟨.int .i64 15, .func (.func 45) #[] #[], 8⟩, ⟨.int .i64 16, .func (.func 46) #[] #[], 9⟩]
abbrev md11 : Array MapEntry := #[⟨.int .i64 4, .func (.func 38) #[] #[], 0⟩, ⟨.int .i64 7, .func (.func 39) #[] #[], 1⟩, ⟨.int .i64 8, .func (.func 39) #[] #[], 2⟩, ⟨.int .i64 9, .func (.func 40) #[] #[], 3⟩, ⟨.int .i64 6, .func (.func 41) #[] #[], 4⟩, ⟨.int .i64 5, .func (.func 42) #[] #[], 5⟩, ⟨.int .i64 11, .func (.func 43) #[] #[], 6⟩, ⟨.int .i64 12, .func (.func 44) #[] #[], 7⟩, ⟨.int .i64 15, .func (.func 45) #[] #[], 8⟩, ⟨.int .i64 16, .func (.func 46) #[] #[], 9⟩, ⟨.int .i64 13, .func (.func 47) #[] #[], 10⟩]
abbrev md12 : Array MapEntry := #[⟨.int .i64 4, .func (.func 38) #[] #[], 0⟩, ⟨.int .i64 7, .func (.func 39) #[] #[], 1⟩, ⟨.int .i64 8, .func (.func 39) #[] #[], 2⟩, ⟨.int .i64 9, .func (.func 40) #[] #[], 3⟩, ⟨.int .i64 6, .func (.func 41) #[] #[], 4⟩, ⟨.int .i64 5, .func (.func 42) #[] #[], 5⟩, ⟨.int .i64 11, .func (.func 43) #[] #[], 6⟩, ⟨.int .i64 12, .func (.func 44) #[] #[], 7⟩, ⟨.int .i64 15, .func (.func 45) #[] #[], 8⟩, ⟨.int .i64 16, .func (.func 46) #[] #[], 9⟩, ⟨.int .i64 13, .func (.func 47) #[] #[], 10⟩, ⟨.int .i64 17, .func (.func 47) #[] #[], 11⟩]
abbrev md13 : Array MapEntry := #[⟨.int .i64 4, .func (.func 38) #[] #[], 0⟩, ⟨.int .i64 7, .func (.func 39) #[] #[], 1⟩, ⟨.int .i64 8, .func (.func 39) #[] #[], 2⟩, ⟨.int .i64 9, .func (.func 40) #[] #[], 3⟩, ⟨.int .i64 6, .func (.func 41) #[] #[], 4⟩, ⟨.int .i64 5, .func (.func 42) #[] #[], 5⟩, ⟨.int .i64 11, .func (.func 43) #[] #[], 6⟩, ⟨.int .i64 12, .func (.func 44) #[] #[], 7⟩, ⟨.int .i64 15, .func (.func 45) #[] #[], 8⟩, ⟨.int .i64 16, .func (.func 46) #[] #[], 9⟩, ⟨.int .i64 13, .func (.func 47) #[] #[], 10⟩, ⟨.int .i64 17, .func (.func 47) #[] #[], 11⟩, ⟨.int .i64 14, .func (.func 48) #[] #[], 12⟩]
theorem md_ins (W : World) (O O' : Obj) (es : Array MapEntry) (c : Nat) (k : Int) (f : Nat) (h : Instr.findNow (.int .i64) (.int .i64 k) es.toList 0 = some none) :
    (Instr.mapUpdate 80 (.map (some (W.heap.size + 2))) (.int .i64 k) (.func (.func f) #[] #[])).run Tryz.prog (((W.alloc O).alloc O').alloc (.map es c)) = .ok () (((W.alloc O).alloc O').alloc (.map (es.push ⟨.int .i64 k, .func (.func f) #[] #[], c⟩) (c + 1))) := by
  have h1 := run_ins_int Tryz.uDoes Tryz.uInt ((W.alloc O).alloc O') es c k (.func (.func f) #[] #[]) h
  rwa [szal, szal] at h1
theorem md_i0 (W : World) (O O' : Obj) : (Instr.mapUpdate 80 (.map (some (W.heap.size + 2))) (.int .i64 4) (.func (.func 38) #[] #[])).run Tryz.prog (((W.alloc O).alloc O').alloc (.map md0 0)) = .ok () (((W.alloc O).alloc O').alloc (.map md1 1)) := md_ins W O O' md0 0 4 _ rfl
theorem md_i1 (W : World) (O O' : Obj) : (Instr.mapUpdate 80 (.map (some (W.heap.size + 2))) (.int .i64 7) (.func (.func 39) #[] #[])).run Tryz.prog (((W.alloc O).alloc O').alloc (.map md1 1)) = .ok () (((W.alloc O).alloc O').alloc (.map md2 2)) := md_ins W O O' md1 1 7 _ rfl
theorem md_i2 (W : World) (O O' : Obj) : (Instr.mapUpdate 80 (.map (some (W.heap.size + 2))) (.int .i64 8) (.func (.func 39) #[] #[])).run Tryz.prog (((W.alloc O).alloc O').alloc (.map md2 2)) = .ok () (((W.alloc O).alloc O').alloc (.map md3 3)) := md_ins W O O' md2 2 8 _ rfl
theorem md_i3 (W : World) (O O' : Obj) : (Instr.mapUpdate 80 (.map (some (W.heap.size + 2))) (.int .i64 9) (.func (.func 40) #[] #[])).run Tryz.prog (((W.alloc O).alloc O').alloc (.map md3 3)) = .ok () (((W.alloc O).alloc O').alloc (.map md4 4)) := md_ins W O O' md3 3 9 _ rfl
theorem md_i4 (W : World) (O O' : Obj) : (Instr.mapUpdate 80 (.map (some (W.heap.size + 2))) (.int .i64 6) (.func (.func 41) #[] #[])).run Tryz.prog (((W.alloc O).alloc O').alloc (.map md4 4)) = .ok () (((W.alloc O).alloc O').alloc (.map md5 5)) := md_ins W O O' md4 4 6 _ rfl
theorem md_i5 (W : World) (O O' : Obj) : (Instr.mapUpdate 80 (.map (some (W.heap.size + 2))) (.int .i64 5) (.func (.func 42) #[] #[])).run Tryz.prog (((W.alloc O).alloc O').alloc (.map md5 5)) = .ok () (((W.alloc O).alloc O').alloc (.map md6 6)) := md_ins W O O' md5 5 5 _ rfl
theorem md_i6 (W : World) (O O' : Obj) : (Instr.mapUpdate 80 (.map (some (W.heap.size + 2))) (.int .i64 11) (.func (.func 43) #[] #[])).run Tryz.prog (((W.alloc O).alloc O').alloc (.map md6 6)) = .ok () (((W.alloc O).alloc O').alloc (.map md7 7)) := md_ins W O O' md6 6 11 _ rfl
theorem md_i7 (W : World) (O O' : Obj) : (Instr.mapUpdate 80 (.map (some (W.heap.size + 2))) (.int .i64 12) (.func (.func 44) #[] #[])).run Tryz.prog (((W.alloc O).alloc O').alloc (.map md7 7)) = .ok () (((W.alloc O).alloc O').alloc (.map md8 8)) := md_ins W O O' md7 7 12 _ rfl
theorem md_i8 (W : World) (O O' : Obj) : (Instr.mapUpdate 80 (.map (some (W.heap.size + 2))) (.int .i64 15) (.func (.func 45) #[] #[])).run Tryz.prog (((W.alloc O).alloc O').alloc (.map md8 8)) = .ok () (((W.alloc O).alloc O').alloc (.map md9 9)) := md_ins W O O' md8 8 15 _ rfl
theorem md_i9 (W : World) (O O' : Obj) : (Instr.mapUpdate 80 (.map (some (W.heap.size + 2))) (.int .i64 16) (.func (.func 46) #[] #[])).run Tryz.prog (((W.alloc O).alloc O').alloc (.map md9 9)) = .ok () (((W.alloc O).alloc O').alloc (.map md10 10)) := md_ins W O O' md9 9 16 _ rfl
theorem md_i10 (W : World) (O O' : Obj) : (Instr.mapUpdate 80 (.map (some (W.heap.size + 2))) (.int .i64 13) (.func (.func 47) #[] #[])).run Tryz.prog (((W.alloc O).alloc O').alloc (.map md10 10)) = .ok () (((W.alloc O).alloc O').alloc (.map md11 11)) := md_ins W O O' md10 10 13 _ rfl
theorem md_i11 (W : World) (O O' : Obj) : (Instr.mapUpdate 80 (.map (some (W.heap.size + 2))) (.int .i64 17) (.func (.func 47) #[] #[])).run Tryz.prog (((W.alloc O).alloc O').alloc (.map md11 11)) = .ok () (((W.alloc O).alloc O').alloc (.map md12 12)) := md_ins W O O' md11 11 17 _ rfl
theorem md_i12 (W : World) (O O' : Obj) : (Instr.mapUpdate 80 (.map (some (W.heap.size + 2))) (.int .i64 14) (.func (.func 48) #[] #[])).run Tryz.prog (((W.alloc O).alloc O').alloc (.map md12 12)) = .ok () (((W.alloc O).alloc O').alloc (.map md13 13)) := md_ins W O O' md12 12 14 _ rfl
/-- The function of a kind. -/
def doesF (k : Int) : Option Nat :=
  if k = 4 then some 38 else if k = 7 then some 39 else if k = 8 then some 39 else if k = 9 then some 40 else if k = 6 then some 41 else if k = 5 then some 42 else if k = 11 then some 43 else if k = 12 then some 44 else if k = 15 then some 45 else if k = 16 then some 46 else if k = 13 then some 47 else if k = 17 then some 47 else if k = 14 then some 48 else none
theorem md_look {W : World} {b : Nat} (hb : W.heap[b]? = some (.map md13 13)) (k : Int) (f : Nat) (hf : doesF k = some f) : (Instr.lookup 80 (.map (some b)) (.int .i64 k) false).run Tryz.prog W = .ok (.func (.func f) #[] #[]) W := by
  unfold doesF at hf
  by_cases h0 : k = 4
  · subst h0
    simp at hf
    subst hf
    exact run_look_int Tryz.uDoes Tryz.uInt W b md13 13 hb 4 0 _ rfl
  by_cases h1 : k = 7
  · subst h1
    simp at hf
    subst hf
    exact run_look_int Tryz.uDoes Tryz.uInt W b md13 13 hb 7 1 _ rfl
  by_cases h2 : k = 8
  · subst h2
    simp at hf
    subst hf
    exact run_look_int Tryz.uDoes Tryz.uInt W b md13 13 hb 8 2 _ rfl
  by_cases h3 : k = 9
  · subst h3
    simp at hf
    subst hf
    exact run_look_int Tryz.uDoes Tryz.uInt W b md13 13 hb 9 3 _ rfl
  by_cases h4 : k = 6
  · subst h4
    simp at hf
    subst hf
    exact run_look_int Tryz.uDoes Tryz.uInt W b md13 13 hb 6 4 _ rfl
  by_cases h5 : k = 5
  · subst h5
    simp at hf
    subst hf
    exact run_look_int Tryz.uDoes Tryz.uInt W b md13 13 hb 5 5 _ rfl
  by_cases h6 : k = 11
  · subst h6
    simp at hf
    subst hf
    exact run_look_int Tryz.uDoes Tryz.uInt W b md13 13 hb 11 6 _ rfl
  by_cases h7 : k = 12
  · subst h7
    simp at hf
    subst hf
    exact run_look_int Tryz.uDoes Tryz.uInt W b md13 13 hb 12 7 _ rfl
  by_cases h8 : k = 15
  · subst h8
    simp at hf
    subst hf
    exact run_look_int Tryz.uDoes Tryz.uInt W b md13 13 hb 15 8 _ rfl
  by_cases h9 : k = 16
  · subst h9
    simp at hf
    subst hf
    exact run_look_int Tryz.uDoes Tryz.uInt W b md13 13 hb 16 9 _ rfl
  by_cases h10 : k = 13
  · subst h10
    simp at hf
    subst hf
    exact run_look_int Tryz.uDoes Tryz.uInt W b md13 13 hb 13 10 _ rfl
  by_cases h11 : k = 17
  · subst h11
    simp at hf
    subst hf
    exact run_look_int Tryz.uDoes Tryz.uInt W b md13 13 hb 17 11 _ rfl
  by_cases h12 : k = 14
  · subst h12
    simp at hf
    subst hf
    exact run_look_int Tryz.uDoes Tryz.uInt W b md13 13 hb 14 12 _ rfl
  simp [h0, h1, h2, h3, h4, h5, h6, h7, h8, h9, h10, h11, h12] at hf
theorem md_no {W : World} {b : Nat} (hb : W.heap[b]? = some (.map md13 13)) (k : Int) (hf : doesF k = none) : (Instr.lookup 80 (.map (some b)) (.int .i64 k) false).run Tryz.prog W = .ok .nilFunc W := by
  refine run_look_none Tryz.uDoes Tryz.uInt W b md13 13 hb k _ (fun w => by kernel_rfl) ?_
  unfold doesF at hf
  by_cases h0 : k = 4
  · subst h0; simp at hf
  have g0 : (k == 4) = false := by simpa using h0
  by_cases h1 : k = 7
  · subst h1; simp at hf
  have g1 : (k == 7) = false := by simpa using h1
  by_cases h2 : k = 8
  · subst h2; simp at hf
  have g2 : (k == 8) = false := by simpa using h2
  by_cases h3 : k = 9
  · subst h3; simp at hf
  have g3 : (k == 9) = false := by simpa using h3
  by_cases h4 : k = 6
  · subst h4; simp at hf
  have g4 : (k == 6) = false := by simpa using h4
  by_cases h5 : k = 5
  · subst h5; simp at hf
  have g5 : (k == 5) = false := by simpa using h5
  by_cases h6 : k = 11
  · subst h6; simp at hf
  have g6 : (k == 11) = false := by simpa using h6
  by_cases h7 : k = 12
  · subst h7; simp at hf
  have g7 : (k == 12) = false := by simpa using h7
  by_cases h8 : k = 15
  · subst h8; simp at hf
  have g8 : (k == 15) = false := by simpa using h8
  by_cases h9 : k = 16
  · subst h9; simp at hf
  have g9 : (k == 16) = false := by simpa using h9
  by_cases h10 : k = 13
  · subst h10; simp at hf
  have g10 : (k == 13) = false := by simpa using h10
  by_cases h11 : k = 17
  · subst h11; simp at hf
  have g11 : (k == 17) = false := by simpa using h11
  by_cases h12 : k = 14
  · subst h12; simp at hf
  have g12 : (k == 14) = false := by simpa using h12
  simp [Instr.findNow, Instr.sameNow, g0, g1, g2, g3, g4, g5, g6, g7, g8, g9, g10, g11, g12]
theorem feq (f : Nat) (w : World) : (binOp .eql 82 (.func (.func f) #[] #[]) .nilFunc).run Tryz.prog w = .ok (.bool false) w := by kernel_rfl
theorem feq0 (w : World) : (binOp .eql 82 .nilFunc .nilFunc).run Tryz.prog w = .ok (.bool true) w := by kernel_rfl
theorem eg_insert : ∀ args w, (callFunc 38 args).run Tryz.prog w = .ok (.enter 38 args) w := fun args w => by kernel_rfl
theorem eg_find : ∀ args w, (callFunc 39 args).run Tryz.prog w = .ok (.enter 39 args) w := fun args w => by kernel_rfl
theorem eg_scan : ∀ args w, (callFunc 40 args).run Tryz.prog w = .ok (.enter 40 args) w := fun args w => by kernel_rfl
theorem eg_delete : ∀ args w, (callFunc 41 args).run Tryz.prog w = .ok (.enter 41 args) w := fun args w => by kernel_rfl
theorem eg_update : ∀ args w, (callFunc 42 args).run Tryz.prog w = .ok (.enter 42 args) w := fun args w => by kernel_rfl
theorem eg_drop : ∀ args w, (callFunc 43 args).run Tryz.prog w = .ok (.enter 43 args) w := fun args w => by kernel_rfl
theorem eg_column : ∀ args w, (callFunc 44 args).run Tryz.prog w = .ok (.enter 44 args) w := fun args w => by kernel_rfl
theorem eg_truncate : ∀ args w, (callFunc 45 args).run Tryz.prog w = .ok (.enter 45 args) w := fun args w => by kernel_rfl
theorem eg_rewrite : ∀ args w, (callFunc 46 args).run Tryz.prog w = .ok (.enter 46 args) w := fun args w => by kernel_rfl
theorem eg_index : ∀ args w, (callFunc 47 args).run Tryz.prog w = .ok (.enter 47 args) w := fun args w => by kernel_rfl
theorem eg_noIndex : ∀ args w, (callFunc 48 args).run Tryz.prog w = .ok (.enter 48 args) w := fun args w => by kernel_rfl
end Go.Proofs.YtbmaeaknlpgdmaaGreat
