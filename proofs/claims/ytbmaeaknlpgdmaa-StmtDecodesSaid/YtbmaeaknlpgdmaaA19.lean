/- The bytes of names, flags, columns. Steps of a region that draws its order, one by one; what is held of the world may be sharpened on the way. -/
import Derived.Test.YtbmaeaknlpgdmaaA04
import Derived.Test.YtbmaeaknlpgdmaaA13
namespace Go.Proofs.Ytbmaeaknlpgdmaa
open Go.RowKit
def nameE (s : ByteArray) : ByteArray := strOfNums [(s.size : Int)] ++ s
def flagE (b : Bool) : ByteArray := if b then ⟨#[1]⟩ else ⟨#[0]⟩
theorem nameE_size (s : ByteArray) : (nameE s).size = s.size + 1 := by
  unfold nameE; rw [ByteArray.size_append, strOfNums_size]; simp; omega
theorem flagE_size (b : Bool) : (flagE b).size = 1 := by cases b <;> rfl

set_option maxRecDepth 100000 in
set_option maxHeartbeats 1000000 in
theorem sname_any (s : ByteArray) (w : World) (h : s.size ≤ 255) : Pure Try.prog 49 #[.string s] w (.string (nameE s)) := by
  have hcv := conv1
  have hsz := strOfNums_size
  go_enter Try.func49, Try.ntmps49
  go_wp2
  go_ret
  exact ⟨rfl, by (repeat (first | assumption | exact Below.refl _ _ | refine bl_drewN ?_ _ | refine bl_drew ?_ | refine bl_alloc ?_ _ | refine bl_step ?_ (by assumption)))⟩
set_option maxRecDepth 100000 in
set_option maxHeartbeats 1000000 in
theorem rnameE_any (s : ByteArray) (w : World) (h : s.size ≤ 255) : Pure Try.prog 35 #[.string s] w (.string (nameE s)) := by
  have hcv := conv1
  have hsz := strOfNums_size
  go_enter Try.func35, Try.ntmps35
  go_wp2
  go_ret
  exact ⟨rfl, by (repeat (first | assumption | exact Below.refl _ _ | refine bl_drewN ?_ _ | refine bl_drew ?_ | refine bl_alloc ?_ _ | refine bl_step ?_ (by assumption)))⟩
set_option maxRecDepth 100000 in
theorem sflag_any (b : Bool) (w : World) : Calls Try.prog 52 #[.bool b] w fun e w' => e = .returned (.string (flagE b)) ∧ w = w' := by
  cases b
  all_goals
    go_enter Try.func52, Try.ntmps52
    go_wp2
    go_ret
    exact ⟨rfl, rfl⟩
set_option maxRecDepth 100000 in
theorem rflag_any (b : Bool) (w : World) : Calls Try.prog 39 #[.bool b] w fun e w' => e = .returned (.string (flagE b)) ∧ w = w' := by
  cases b
  all_goals
    go_enter Try.func39, Try.ntmps39
    go_wp2
    go_ret
    exact ⟨rfl, rfl⟩
set_option maxRecDepth 100000 in
set_option maxHeartbeats 1000000 in
theorem rval_any (v : Vl) (w : World) (hf : v.f < 18446744073709551616) (hg : goodV v = true) : Pure Try.prog 36 #[v.agg] w (.string (encV v)) := by
  have Hf := Lib.hid hf
  have Hg := Lib.hid hg
  clear hf hg
  go_enter Try.func36, Try.ntmps36
  go_wp2_with fail
  refine (renc_any v _ Hf.out Hg.out).mono ?_
  rintro e w1 ⟨rfl, hb⟩
  go_wp2
  go_ret
  exact ⟨rfl, by (repeat (first | assumption | exact Below.refl _ _ | refine bl_drewN ?_ _ | refine bl_drew ?_ | refine bl_alloc ?_ _ | refine bl_step ?_ (by assumption)))⟩
end Go.Proofs.Ytbmaeaknlpgdmaa
namespace Go.Proofs.Ytbmaeaknlpgdmaa
open Go.RowKit
theorem wpAnyH_sharp {P : Program} {md : Region.Mode} {ops : Array Oper} {Q : Exit → Act → World → Prop} {S S' : World → Prop} (hs : ∀ w, S' w → S w) :
    ∀ (fuel : Nat) (listed : Array Bool) (a : Act) (w : World), wpAnyH P md ops Q S' fuel listed a w → wpAnyH P md ops Q S fuel listed a w
  | 0, _, _, _, h => h
  | fuel + 1, _, _, _, h => ⟨h.1, fun i hi => wpOp_mono (fun a' w' h' => ⟨hs _ h'.1, wpAnyH_sharp hs fuel _ a' w' h'.2⟩) (h.2 i hi)⟩
/-- The library's moves, over a list of operations: the operation comes out written. -/
theorem held_take {P : Program} {md : Region.Mode} {l : List Oper} {Q : Exit → Act → World → Prop} {S : World → Prop} {i : Nat} {oi : Oper} {v : Value} {fuel : Nat} {listed : Array Bool} {a : Act} {w : World} (hi : l[i]? = some oi)
    (hs : Region.noSelect l.toArray = true) (hf : Region.free md l.toArray listed i = true) (hr : (Region.ready md l.toArray listed).contains i = true)
    (hQ : ∀ c a w, Q (.panic c) (a.put oi.dst v) w → Q (.panic c) a w) (hS : S w) (hw : Region.wanted oi (yielded l.toArray a.tmps) = true) (hy : ∀ w, S w → (execOp a.eval oi).run P w = .ok (.value v) w)
    (h : wpAnyH P md l.toArray Q S fuel (listed.setIfInBounds i true) (a.put oi.dst v) w) : wpAnyH P md l.toArray Q S (fuel + 1) listed a w :=
  wpAnyH_take (by simpa using hi) hs hf hr hQ (Or.inl ⟨hw, hy⟩) hS h
theorem held_step {P : Program} {md : Region.Mode} {l : List Oper} {Q : Exit → Act → World → Prop} {S : World → Prop} {fuel : Nat} {listed : Array Bool} {a : Act} {w : World} {i : Nat} {o : Oper} {rs : List Nat} (ho : l[i]? = some o)
    (h : ∀ K' : Act → World → Prop, Shut (∀ a w, S w → (S w → wpAnyH P md l.toArray Q S fuel (listed.setIfInBounds i true) a w) → K' a w) → if Region.wanted o (yielded l.toArray a.tmps) = true then Oper.wp P o a w K' Q else K' (a.put o.dst undef) w)
    (hs : AllReadyH P md l.toArray Q S fuel listed a w rs) : AllReadyH P md l.toArray Q S fuel listed a w (i :: rs) :=
  AllReadyH.cons (by simpa using ho) h hs
end Go.Proofs.Ytbmaeaknlpgdmaa
