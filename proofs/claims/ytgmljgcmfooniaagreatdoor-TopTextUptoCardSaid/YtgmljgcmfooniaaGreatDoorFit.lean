/- The closed cells of a row, limb by limb, where the program's init order is a long text: the words behind its head are never laid open. Conditions: none. -/
import Derived.Test.YtgmljgcmfooniaaGreatDoorRows
import Derived.ProofKit
set_option linter.unusedVariables false
set_option linter.unusedSimpArgs false
namespace Go.Tide
open Go.ChangeShapes Go.WideShapes Go.ChangeAt Go.RowKit
theorem band {a b : Bool} (h1 : a = true) (h2 : b = true) : (a && b) = true := by rw [h1, h2]; rfl
theorem toList_of {s : String} {l : List Char} (h : s = String.ofList l) : s.toList = l := by rw [h]; exact String.toList_ofList
theorem head_of {α : Type} [BEq α] [LawfulBEq α] {l : List α} {a : α} (h : (l.head? == some a) = true) : ∃ r, l = a :: r := by
  cases l with
  | nil => simp at h
  | cons b r => exact ⟨r, by simp at h; rw [h]⟩
theorem make_of (P : Program) (h : ((behindMainWord (wordsSigns P.initOrder.toList)).head? == some "cut".toList) = true) : P.make = some Make.cut := by
  obtain ⟨r, hr⟩ := head_of h
  unfold Program.make
  rw [hr]
  rfl
theorem strip_cut (r : List (List Char)) : stripLifts liftWords ("cut".toList :: r) = ([], "cut".toList :: r) := by rfl
theorem mayEnter_of (P : Program) (h : ((behindMainWord (wordsSigns P.initOrder.toList)).head? == some "cut".toList) = true) (h1 : P.laysLater = false) (h2 : P.bearsReflect = false) (h3 : P.doorFits [] = true) : P.mayEnter = true := by
  obtain ⟨r, hr⟩ := head_of h
  unfold Program.mayEnter
  rw [hr]
  simp only [strip_cut, h1, h2, h3]
  rfl
theorem lifts_of (P : Program) (h : ((behindMainWord (wordsSigns P.initOrder.toList)).head? == some "cut".toList) = true) : P.liftsFinal = false := by
  obtain ⟨r, hr⟩ := head_of h
  unfold Program.liftsFinal Program.headLifts
  rw [hr]
  simp only [strip_cut]
  rfl
end Go.Tide
namespace Go.Proofs.YtgmljgcmfooniaaGreatDoor
open Go.ChangeShapes Go.WideShapes Go.ChangeAt Go.RowKit Go.Tide
set_option maxRecDepth 100000 in
theorem fitHead : ((behindMainWord (wordsSigns Tryz.prog.initOrder.toList)).head? == some "cut".toList) = true := by
  have e := toList_of (s := Tryz.prog.initOrder) rfl
  rw [e]
  show _ = _
  kernel_rfl
theorem fitEnter : Tryz.pinned.checked.prog.mayEnter = true := mayEnter_of Tryz.prog fitHead (by kernel_rfl) (by kernel_rfl) (by kernel_rfl)
theorem fitLifts : Tryz.pinned.checked.prog.liftsFinal = false := lifts_of Tryz.prog fitHead
theorem fitMake : Tryz.pinned.checked.prog.make = some Make.cut := make_of Tryz.prog fitHead
end Go.Proofs.YtgmljgcmfooniaaGreatDoor
