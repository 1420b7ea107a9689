/-
  The table of the small source that the laws' function alive compiles (closed facts). Conditions: none.
-/
import Derived.Test.YtdicedpklpadgaaGreatDoorZ35
set_option linter.all false
namespace Go.Proofs.YtdicedpklpadgaaGreatDoor.Cmq
open Go.RowKit Mem Civ Mom Img Plc Rul Ahd Trn Src Snd Att Rgt Abr

def nmA : ByteArray := ⟨#[65]⟩
def nmE : ByteArray := ⟨#[69]⟩
def fmC : ByteArray := ⟨#[67, 37, 115, 84]⟩
def rE1 : Rule := ⟨nmE, 1990, 1000000, 3, 1, 7, 0, 3600, 2, 3600, ⟨#[83]⟩⟩
def rE2 : Rule := ⟨nmE, 1990, 1000000, 10, 1, 7, 0, 3600, 2, 0, ⟨#[]⟩⟩
def eraS : Era := ⟨3600, 2, 0, nmE, fmC, false, 0, ⟨0, 0, 0, 0, 0, 0⟩⟩
def znS (A : Option Addr) (c : Nat) : ZoneM := ⟨nmA, [eraS], A, c⟩
def smS (A : Option Addr) (c : Nat) : Src := ⟨[rE1, rE2], [znS A c], []⟩
def tabS : Table := tableZ (smS none 0) (znS none 0)
set_option maxRecDepth 1000000 in
theorem check_sm (A : Option Addr) (c : Nat) : checkB (smS A c) = noFlaw := by kernel_rfl
theorem made_sm (A : Option Addr) (c : Nat) : madeZ (smS A c) (znS A c) = madeZ (smS none 0) (znS none 0) := rfl
theorem table_sm (A : Option Addr) (c : Nat) : tableZ (smS A c) (znS A c) = tabS := rfl
theorem over_sm : (madeZ (smS none 0) (znS none 0)).1.2 = false := by kernel_rfl
theorem compile_sm (A : Option Addr) (c : Nat) : compileP (smS A c) 0 = (tabS, 0) := by
  have e : (smS A c).zones[(0 : Int).toNat]? = some (znS A c) := rfl
  unfold compileP
  rw [if_pos ⟨check_sm A c, Int.le_refl _⟩, e]
  simp only
  rw [if_neg (by rw [made_sm, over_sm]; decide), table_sm]
theorem len_sm : tabS.shifts.length = 100 := by kernel_rfl
theorem tail_sm : tabS.tail = [rE1, rE2] := by kernel_rfl
theorem till_sm : tabS.till = 2208988800 := by kernel_rfl
def phS : Phase := ⟨7200, 3600, ⟨#[67, 83, 84]⟩⟩
set_option maxRecDepth 1000000 in
theorem right_sm : rightB tabS (tailB tabS) = true := by kernel_rfl
theorem at1_sm : atP tabS 1625097600 = (phS, true) := by
  unfold atP
  rw [if_pos right_sm]
  kernel_rfl
theorem at2_sm : atP tabS 32519318400 = (phS, true) := by
  unfold atP
  rw [if_pos right_sm]
  kernel_rfl
end Go.Proofs.YtdicedpklpadgaaGreatDoor.Cmq
