/- Layer 17's head, in numbers: what its live question finds. No program stands here. -/
import Derived.Test.YtglohconhbcchaaGreatDoorFfX
namespace Go.Proofs.YtglohconhbcchaaGreatDoor

def fputs : List (Int × Int × Nat) := [(1, 0, 8199), (2, 0, 12295), (3, 5, 36871), (2, 1, 32903)]
def fG0 : GS := G24 (gputs fputs)
def fo1 : Opf := ⟨0, 1, 5, 0, true, 0, 0, 0, 0⟩
def fo3 : Opf := ⟨0, 1, 5, 1, false, 0, 0, 0, 0⟩
def fo4 : Opf := ⟨0, 1, 11, 0, false, 0, 0, 0, 0⟩
def fG1 : GS := (fdo P24 fG0 fo1).2
def fG2 : GS := (fdo P24 fG1 fo1).2
def fG3 : GS := (fdo P24 fG2 fo3).2
def fG4 : GS := (fdo P24 fG3 fo4).2
set_option maxRecDepth 100000 in
theorem fh_a : (fdo P24 fG0 fo1).1.anew.length = 73 ∧ (fdo P24 fG0 fo1).1.is = true := by decide +kernel
set_option maxRecDepth 100000 in
theorem fh_b : (fdo P24 fG1 fo1).1.anew = [] ∧ (fdo P24 fG1 fo1).1.is = true := by decide +kernel
set_option maxRecDepth 100000 in
theorem fh_c : (fdo P24 fG2 fo3).1.anew = [5] ∧ (fdo P24 fG2 fo3).1.is = true := by decide +kernel
set_option maxRecDepth 100000 in
theorem fh_x : (sfind fG3.s.ps ⟨1, 3, 0⟩).map (fun t => mwalk P24.n fG3.s.mem 5 3 t Rt.all) = some (some (33, ⟨true, true, true⟩)) := by decide +kernel
set_option maxRecDepth 100000 in
theorem fh_d : (fdo P24 fG3 fo4).1.is = true := by decide +kernel
set_option maxRecDepth 100000 in
theorem fh_y : (sfind fG3.s.ps ⟨1, 3, 0⟩).map (fun t => mwalk P24.n fG4.s.mem 11 3 t Rt.all) = some (some (35, ⟨false, true, true⟩)) := by decide +kernel
set_option maxRecDepth 100000 in
theorem fh_l : sleft P24 fG4.s = 4 ∧ gprot fG4 3 = true := by decide +kernel
end Go.Proofs.YtglohconhbcchaaGreatDoor
