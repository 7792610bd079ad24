/- The head of the program's own word, spelled out: what the row's frame asks of it. -/
import Derived.Test.YtppbcdcmpcagdaaRows
import Derived.KernelRfl
import Derived.JoinedOf
namespace Go.CP
open Go
theorem make_of (P : Program) (rest : List (List Char)) (h : behindMainWord (wordsSigns P.initOrder.toList) = ['c', 'u', 't'] :: rest) : P.make = some .cut := by
  unfold Program.make
  rw [h]
  rfl
theorem strip_of (rest : List (List Char)) : stripLifts liftWords (['c', 'u', 't'] :: rest) = ([], ['c', 'u', 't'] :: rest) := by rfl
theorem lifts_of (P : Program) (rest : List (List Char)) (h : behindMainWord (wordsSigns P.initOrder.toList) = ['c', 'u', 't'] :: rest) : P.liftsFinal = false := by
  unfold Program.liftsFinal Program.headLifts
  rw [h, strip_of]
  rfl
theorem mayEnter_of (P : Program) (rest : List (List Char)) (h : behindMainWord (wordsSigns P.initOrder.toList) = ['c', 'u', 't'] :: rest) (hl : P.laysLater = false) (hr : P.bearsReflect = false) (hd : P.doorFits [] = true) : P.mayEnter = true := by
  unfold Program.mayEnter
  rw [h]
  simp only [strip_of, hl, hr, hd]
  rfl
theorem and_true {a b : Bool} (h1 : a = true) (h2 : b = true) : (a && b) = true := by rw [h1, h2]; rfl
theorem lift_limb {P : Program} {c : OpenClaim} (h : P.liftsFinal = false) (hc : c.lifted = false) : (c.lifted == P.liftsFinal) = true := by rw [h, hc]; rfl
theorem make_limb {P : Program} {c : OpenClaim} (h : P.make = some .cut) (hc : c.make = .cut) : (P.make == some c.make) = true := by rw [h, hc]; rfl
end Go.CP
namespace Go.Proofs.Ytppbcdcmpcagdaa
open Go Go.CP
def initChars : List Char := ['h', 'a', 'r', 'n', 'e', 's', 's', ' ', '5', 'b', '6', '5', '2', '4', '8', 'b', 'd', '9', '9', 'e', '2', 'f', '5', 'c', '0', '2', '0', '2', 'd', '5', '3', '8', 'e', '5', 'e', '4', 'd', '5', 'c', '3', 'b', 'd', 'e', '4', 'a', '8', 'b', 'e', '8', '4', 'c', '3', '3', '2', '0', '7', '6', 'd', '0', '3', '3', 'b', '7', 'e', '2', 'a', 'c', '0', '8', '2', '2', '2', ' ', 'c', 'u', 't', ' ', 'a', 't', ' ', 'c', 'o', 'p', 'y', 'h', 'o', 'l', 'd', '/', 'c', 'o', 'p', 'y', 'h', 'o', 'l', 'd', 'l', 'a', 'w', '0', '3', '.', 'F', 'i', 'e', 'l', 'd', 'W', 'r', 'i', 't', 'e', 's', ' ', 'c', 'o', 'p', 'y', 'h', 'o', 'l', 'd', '/', 'c', 'o', 'p', 'y', 'h', 'o', 'l', 'd', 'l', 'a', 'w', '0', '3', '.', 'F', 'i', 'e', 'l', 'd', 'R', 'e', 'a', 'd', 's', ' ', 'c', 'o', 'p', 'y', 'h', 'o', 'l', 'd', '/', 'c', 'o', 'p', 'y', 'h', 'o', 'l', 'd', 'l', 'a', 'w', '0', '3', '.', 'F', 'i', 'e', 'l', 'd', 'F', 'r', 'a', 'm', 'e', 's', ' ', 'c', 'o', 'p', 'y', 'h', 'o', 'l', 'd', '/', 'c', 'o', 'p', 'y', 'h', 'o', 'l', 'd', 'l', 'a', 'w', '0', '3', '.', 'F', 'i', 'e', 'l', 'd', 'S', 'u', 'm', 's', ' ', 'c', 'o', 'p', 'y', 'h', 'o', 'l', 'd', '/', 'c', 'o', 'p', 'y', 'h', 'o', 'l', 'd', 'l', 'a', 'w', '0', '3', '.', 'F', 'i', 'e', 'l', 'd', 'B', 'a', 'c', 'k', ' ', 'c', 'o', 'p', 'y', 'h', 'o', 'l', 'd', '/', 'c', 'o', 'p', 'y', 'h', 'o', 'l', 'd', 'l', 'a', 'w', '0', '3', '.', 'F', 'i', 'e', 'l', 'd', 'T', 'u', 'r', 'n', 'e', 'd', ' ', 'c', 'o', 'p', 'y', 'h', 'o', 'l', 'd', '/', 'c', 'o', 'p', 'y', 'h', 'o', 'l', 'd', 'l', 'a', 'w', '0', '3', '.', 'F', 'i', 'e', 'l', 'd', 'A', 'p', 'a', 'r', 't', ' ', 'c', 'o', 'p', 'y', 'h', 'o', 'l', 'd', '/', 'c', 'o', 'p', 'y', 'h', 'o', 'l', 'd', 'l', 'a', 'w', '0', '3', '.', 'F', 'i', 'e', 'l', 'd', 'B', 'e', 'h', 'i', 'n', 'd', ' ', 'c', 'o', 'p', 'y', 'h', 'o', 'l', 'd', '/', 'c', 'o', 'p', 'y', 'h', 'o', 'l', 'd', 'l', 'a', 'w', '0', '7', '.', 'S', 'u', 'p', 'e', 'r', 'E', 'n', 'c', 'o', 'd', 'e', 's', ' ', 'c', 'o', 'p', 'y', 'h', 'o', 'l', 'd', '/', 'c', 'o', 'p', 'y', 'h', 'o', 'l', 'd', 'l', 'a', 'w', '0', '7', '.', 'S', 'u', 'p', 'e', 'r', 'S', 'p', 'o', 'i', 'l', 't', ' ', 'c', 'o', 'p', 'y', 'h', 'o', 'l', 'd', '/', 'c', 'o', 'p', 'y', 'h', 'o', 'l', 'd', 'l', 'a', 'w', '0', '7', '.', 'S', 'u', 'p', 'e', 'r', 'A', 'p', 'a', 'r', 't', ' ', 'c', 'o', 'p', 'y', 'h', 'o', 'l', 'd', '/', 'c', 'o', 'p', 'y', 'h', 'o', 'l', 'd', 'l', 'a', 'w', '0', '8', '.', 'S', 'e', 'a', 't', 'E', 'n', 'c', 'o', 'd', 'e', 's', ' ', 'c', 'o', 'p', 'y', 'h', 'o', 'l', 'd', '/', 'c', 'o', 'p', 'y', 'h', 'o', 'l', 'd', 'l', 'a', 'w', '0', '8', '.', 'S', 'e', 'a', 't', 'F', 'a', 't', 'e', 's', ' ', 'c', 'o', 'p', 'y', 'h', 'o', 'l', 'd', '/', 'c', 'o', 'p', 'y', 'h', 'o', 'l', 'd', 'l', 'a', 'w', '0', '8', '.', 'S', 'e', 'a', 't', 'O', 'n', 'c', 'e', ' ', 'c', 'o', 'p', 'y', 'h', 'o', 'l', 'd', '/', 'c', 'o', 'p', 'y', 'h', 'o', 'l', 'd', 'l', 'a', 'w', '0', '8', '.', 'S', 'e', 'a', 't', 'S', 'p', 'o', 'i', 'l', 't', ' ', 'c', 'o', 'p', 'y', 'h', 'o', 'l', 'd', '/', 'c', 'o', 'p', 'y', 'h', 'o', 'l', 'd', 'l', 'a', 'w', '1', '0', '.', 'N', 'o', 'd', 'e', 'P', 'u', 't', 's', ' ', 'c', 'o', 'p', 'y', 'h', 'o', 'l', 'd', '/', 'c', 'o', 'p', 'y', 'h', 'o', 'l', 'd', 'l', 'a', 'w', '1', '0', '.', 'N', 'o', 'd', 'e', 'G', 'e', 't', 's', ' ', 'c', 'o', 'p', 'y', 'h', 'o', 'l', 'd', '/', 'c', 'o', 'p', 'y', 'h', 'o', 'l', 'd', 'l', 'a', 'w', '1', '0', '.', 'N', 'o', 'd', 'e', 'F', 'o', 'u', 'r', ' ', 'c', 'o', 'p', 'y', 'h', 'o', 'l', 'd', '/', 'c', 'o', 'p', 'y', 'h', 'o', 'l', 'd', 'l', 'a', 'w', '1', '0', '.', 'N', 'o', 'd', 'e', 'A', 'p', 'a', 'r', 't', ' ', 'c', 'o', 'p', 'y', 'h', 'o', 'l', 'd', '/', 'c', 'o', 'p', 'y', 'h', 'o', 'l', 'd', 'l', 'a', 'w', '1', '7', '.', 'V', 'e', 'r', 'b', 'A', 's', 'k', 's', ' ', 'c', 'o', 'p', 'y', 'h', 'o', 'l', 'd', '/', 'c', 'o', 'p', 'y', 'h', 'o', 'l', 'd', 'l', 'a', 'w', '1', '7', '.', 'V', 'e', 'r', 'b', 'A', 's', 'k', 'e', 'd', ' ', 'c', 'o', 'p', 'y', 'h', 'o', 'l', 'd', '/', 'c', 'o', 'p', 'y', 'h', 'o', 'l', 'd', 'l', 'a', 'w', '1', '7', '.', 'V', 'e', 'r', 'b', 'A', 'n', 's', 'w', 'e', 'r', 's', ' ', 'c', 'o', 'p', 'y', 'h', 'o', 'l', 'd', '/', 'c', 'o', 'p', 'y', 'h', 'o', 'l', 'd', 'l', 'a', 'w', '1', '7', '.', 'V', 'e', 'r', 'b', 'S', 'p', 'o', 'i', 'l', 't', ' ', 'c', 'o', 'p', 'y', 'h', 'o', 'l', 'd', '/', 'c', 'o', 'p', 'y', 'h', 'o', 'l', 'd', 'l', 'a', 'w', '1', '7', '.', 'V', 'e', 'r', 'b', 'C', 'a', 'l', 'l', 's', ' ', 'c', 'o', 'p', 'y', 'h', 'o', 'l', 'd', '/', 'c', 'o', 'p', 'y', 'h', 'o', 'l', 'd', 'l', 'a', 'w', '1', '7', '.', 'V', 'e', 'r', 'b', 'O', 'n', 'e', ' ', 'c', 'o', 'p', 'y', 'h', 'o', 'l', 'd', '/', 'c', 'o', 'p', 'y', 'h', 'o', 'l', 'd', 'l', 'a', 'w', '1', '7', '.', 'V', 'e', 'r', 'b', 'S', 'h', 'o', 'r', 't', 's', ' ', 'c', 'o', 'p', 'y', 'h', 'o', 'l', 'd', '/', 'c', 'o', 'p', 'y', 'h', 'o', 'l', 'd', 'l', 'a', 'w', '0', '5', '.', 'D', 'r', 'i', 'v', 'e', 'L', 'a', 's', 't', 's', ' ', 'c', 'o', 'p', 'y', 'h', 'o', 'l', 'd', '/', 'c', 'o', 'p', 'y', 'h', 'o', 'l', 'd', 'l', 'a', 'w', '0', '5', '.', 'D', 'r', 'i', 'v', 'e', 'F', 'u', 's', 'e', ' ', 'c', 'o', 'p', 'y', 'h', 'o', 'l', 'd', '/', 'c', 'o', 'p', 'y', 'h', 'o', 'l', 'd', 'l', 'a', 'w', '0', '5', '.', 'D', 'r', 'i', 'v', 'e', 'O', 'w', 'n', ' ', 'c', 'o', 'p', 'y', 'h', 'o', 'l', 'd', '/', 'c', 'o', 'p', 'y', 'h', 'o', 'l', 'd', 'l', 'a', 'w', '0', '5', '.', 'D', 'r', 'i', 'v', 'e', 'P', 'l', 'a', 'y', 's', ' ', 'c', 'o', 'p', 'y', 'h', 'o', 'l', 'd', '/', 'c', 'o', 'p', 'y', 'h', 'o', 'l', 'd', 'l', 'a', 'w', '0', '5', '.', 'D', 'r', 'i', 'v', 'e', 'N', 'o', 'n', 'e', ' ', 'c', 'o', 'p', 'y', 'h', 'o', 'l', 'd', '/', 'c', 'o', 'p', 'y', 'h', 'o', 'l', 'd', 'l', 'a', 'w', '0', '5', '.', 'D', 'r', 'i', 'v', 'e', 'T', 'w', 'o', ' ', 'c', 'o', 'p', 'y', 'h', 'o', 'l', 'd', '/', 'c', 'o', 'p', 'y', 'h', 'o', 'l', 'd', 'l', 'a', 'w', '0', '6', '.', 'R', 'e', 'd', 'o', 'H', 'e', 'a', 'd', 's', ' ', 'c', 'o', 'p', 'y', 'h', 'o', 'l', 'd', '/', 'c', 'o', 'p', 'y', 'h', 'o', 'l', 'd', 'l', 'a', 'w', '0', '6', '.', 'R', 'e', 'd', 'o', 'L', 'a', 's', 't', ' ', 'c', 'o', 'p', 'y', 'h', 'o', 'l', 'd', '/', 'c', 'o', 'p', 'y', 'h', 'o', 'l', 'd', 'l', 'a', 'w', '0', '6', '.', 'R', 'e', 'd', 'o', 'N', 'o', 'n', 'e', ' ', 'c', 'o', 'p', 'y', 'h', 'o', 'l', 'd', '/', 'c', 'o', 'p', 'y', 'h', 'o', 'l', 'd', 'l', 'a', 'w', '0', '6', '.', 'R', 'e', 'd', 'o', 'P', 'l', 'a', 'y', 's', ' ', 'c', 'o', 'p', 'y', 'h', 'o', 'l', 'd', '/', 'c', 'o', 'p', 'y', 'h', 'o', 'l', 'd', 'l', 'a', 'w', '0', '6', '.', 'R', 'e', 'd', 'o', 'T', 'w', 'i', 'c', 'e']
theorem init_eq : Try.prog.initOrder = String.ofList initChars := by kernel_rfl
theorem init_list : Try.prog.initOrder.toList = initChars := by rw [init_eq, String.toList_ofList]
def rootWords : List (List Char) := [['a', 't'],
  ['c', 'o', 'p', 'y', 'h', 'o', 'l', 'd', '/', 'c', 'o', 'p', 'y', 'h', 'o', 'l', 'd', 'l', 'a', 'w', '0', '3', '.', 'F', 'i', 'e', 'l', 'd', 'W', 'r', 'i', 't', 'e', 's'],
  ['c', 'o', 'p', 'y', 'h', 'o', 'l', 'd', '/', 'c', 'o', 'p', 'y', 'h', 'o', 'l', 'd', 'l', 'a', 'w', '0', '3', '.', 'F', 'i', 'e', 'l', 'd', 'R', 'e', 'a', 'd', 's'],
  ['c', 'o', 'p', 'y', 'h', 'o', 'l', 'd', '/', 'c', 'o', 'p', 'y', 'h', 'o', 'l', 'd', 'l', 'a', 'w', '0', '3', '.', 'F', 'i', 'e', 'l', 'd', 'F', 'r', 'a', 'm', 'e', 's'],
  ['c', 'o', 'p', 'y', 'h', 'o', 'l', 'd', '/', 'c', 'o', 'p', 'y', 'h', 'o', 'l', 'd', 'l', 'a', 'w', '0', '3', '.', 'F', 'i', 'e', 'l', 'd', 'S', 'u', 'm', 's'],
  ['c', 'o', 'p', 'y', 'h', 'o', 'l', 'd', '/', 'c', 'o', 'p', 'y', 'h', 'o', 'l', 'd', 'l', 'a', 'w', '0', '3', '.', 'F', 'i', 'e', 'l', 'd', 'B', 'a', 'c', 'k'],
  ['c', 'o', 'p', 'y', 'h', 'o', 'l', 'd', '/', 'c', 'o', 'p', 'y', 'h', 'o', 'l', 'd', 'l', 'a', 'w', '0', '3', '.', 'F', 'i', 'e', 'l', 'd', 'T', 'u', 'r', 'n', 'e', 'd'],
  ['c', 'o', 'p', 'y', 'h', 'o', 'l', 'd', '/', 'c', 'o', 'p', 'y', 'h', 'o', 'l', 'd', 'l', 'a', 'w', '0', '3', '.', 'F', 'i', 'e', 'l', 'd', 'A', 'p', 'a', 'r', 't'],
  ['c', 'o', 'p', 'y', 'h', 'o', 'l', 'd', '/', 'c', 'o', 'p', 'y', 'h', 'o', 'l', 'd', 'l', 'a', 'w', '0', '3', '.', 'F', 'i', 'e', 'l', 'd', 'B', 'e', 'h', 'i', 'n', 'd'],
  ['c', 'o', 'p', 'y', 'h', 'o', 'l', 'd', '/', 'c', 'o', 'p', 'y', 'h', 'o', 'l', 'd', 'l', 'a', 'w', '0', '7', '.', 'S', 'u', 'p', 'e', 'r', 'E', 'n', 'c', 'o', 'd', 'e', 's'],
  ['c', 'o', 'p', 'y', 'h', 'o', 'l', 'd', '/', 'c', 'o', 'p', 'y', 'h', 'o', 'l', 'd', 'l', 'a', 'w', '0', '7', '.', 'S', 'u', 'p', 'e', 'r', 'S', 'p', 'o', 'i', 'l', 't'],
  ['c', 'o', 'p', 'y', 'h', 'o', 'l', 'd', '/', 'c', 'o', 'p', 'y', 'h', 'o', 'l', 'd', 'l', 'a', 'w', '0', '7', '.', 'S', 'u', 'p', 'e', 'r', 'A', 'p', 'a', 'r', 't'],
  ['c', 'o', 'p', 'y', 'h', 'o', 'l', 'd', '/', 'c', 'o', 'p', 'y', 'h', 'o', 'l', 'd', 'l', 'a', 'w', '0', '8', '.', 'S', 'e', 'a', 't', 'E', 'n', 'c', 'o', 'd', 'e', 's'],
  ['c', 'o', 'p', 'y', 'h', 'o', 'l', 'd', '/', 'c', 'o', 'p', 'y', 'h', 'o', 'l', 'd', 'l', 'a', 'w', '0', '8', '.', 'S', 'e', 'a', 't', 'F', 'a', 't', 'e', 's'],
  ['c', 'o', 'p', 'y', 'h', 'o', 'l', 'd', '/', 'c', 'o', 'p', 'y', 'h', 'o', 'l', 'd', 'l', 'a', 'w', '0', '8', '.', 'S', 'e', 'a', 't', 'O', 'n', 'c', 'e'],
  ['c', 'o', 'p', 'y', 'h', 'o', 'l', 'd', '/', 'c', 'o', 'p', 'y', 'h', 'o', 'l', 'd', 'l', 'a', 'w', '0', '8', '.', 'S', 'e', 'a', 't', 'S', 'p', 'o', 'i', 'l', 't'],
  ['c', 'o', 'p', 'y', 'h', 'o', 'l', 'd', '/', 'c', 'o', 'p', 'y', 'h', 'o', 'l', 'd', 'l', 'a', 'w', '1', '0', '.', 'N', 'o', 'd', 'e', 'P', 'u', 't', 's'],
  ['c', 'o', 'p', 'y', 'h', 'o', 'l', 'd', '/', 'c', 'o', 'p', 'y', 'h', 'o', 'l', 'd', 'l', 'a', 'w', '1', '0', '.', 'N', 'o', 'd', 'e', 'G', 'e', 't', 's'],
  ['c', 'o', 'p', 'y', 'h', 'o', 'l', 'd', '/', 'c', 'o', 'p', 'y', 'h', 'o', 'l', 'd', 'l', 'a', 'w', '1', '0', '.', 'N', 'o', 'd', 'e', 'F', 'o', 'u', 'r'],
  ['c', 'o', 'p', 'y', 'h', 'o', 'l', 'd', '/', 'c', 'o', 'p', 'y', 'h', 'o', 'l', 'd', 'l', 'a', 'w', '1', '0', '.', 'N', 'o', 'd', 'e', 'A', 'p', 'a', 'r', 't'],
  ['c', 'o', 'p', 'y', 'h', 'o', 'l', 'd', '/', 'c', 'o', 'p', 'y', 'h', 'o', 'l', 'd', 'l', 'a', 'w', '1', '7', '.', 'V', 'e', 'r', 'b', 'A', 's', 'k', 's'],
  ['c', 'o', 'p', 'y', 'h', 'o', 'l', 'd', '/', 'c', 'o', 'p', 'y', 'h', 'o', 'l', 'd', 'l', 'a', 'w', '1', '7', '.', 'V', 'e', 'r', 'b', 'A', 's', 'k', 'e', 'd'],
  ['c', 'o', 'p', 'y', 'h', 'o', 'l', 'd', '/', 'c', 'o', 'p', 'y', 'h', 'o', 'l', 'd', 'l', 'a', 'w', '1', '7', '.', 'V', 'e', 'r', 'b', 'A', 'n', 's', 'w', 'e', 'r', 's'],
  ['c', 'o', 'p', 'y', 'h', 'o', 'l', 'd', '/', 'c', 'o', 'p', 'y', 'h', 'o', 'l', 'd', 'l', 'a', 'w', '1', '7', '.', 'V', 'e', 'r', 'b', 'S', 'p', 'o', 'i', 'l', 't'],
  ['c', 'o', 'p', 'y', 'h', 'o', 'l', 'd', '/', 'c', 'o', 'p', 'y', 'h', 'o', 'l', 'd', 'l', 'a', 'w', '1', '7', '.', 'V', 'e', 'r', 'b', 'C', 'a', 'l', 'l', 's'],
  ['c', 'o', 'p', 'y', 'h', 'o', 'l', 'd', '/', 'c', 'o', 'p', 'y', 'h', 'o', 'l', 'd', 'l', 'a', 'w', '1', '7', '.', 'V', 'e', 'r', 'b', 'O', 'n', 'e'],
  ['c', 'o', 'p', 'y', 'h', 'o', 'l', 'd', '/', 'c', 'o', 'p', 'y', 'h', 'o', 'l', 'd', 'l', 'a', 'w', '1', '7', '.', 'V', 'e', 'r', 'b', 'S', 'h', 'o', 'r', 't', 's'],
  ['c', 'o', 'p', 'y', 'h', 'o', 'l', 'd', '/', 'c', 'o', 'p', 'y', 'h', 'o', 'l', 'd', 'l', 'a', 'w', '0', '5', '.', 'D', 'r', 'i', 'v', 'e', 'L', 'a', 's', 't', 's'],
  ['c', 'o', 'p', 'y', 'h', 'o', 'l', 'd', '/', 'c', 'o', 'p', 'y', 'h', 'o', 'l', 'd', 'l', 'a', 'w', '0', '5', '.', 'D', 'r', 'i', 'v', 'e', 'F', 'u', 's', 'e'],
  ['c', 'o', 'p', 'y', 'h', 'o', 'l', 'd', '/', 'c', 'o', 'p', 'y', 'h', 'o', 'l', 'd', 'l', 'a', 'w', '0', '5', '.', 'D', 'r', 'i', 'v', 'e', 'O', 'w', 'n'],
  ['c', 'o', 'p', 'y', 'h', 'o', 'l', 'd', '/', 'c', 'o', 'p', 'y', 'h', 'o', 'l', 'd', 'l', 'a', 'w', '0', '5', '.', 'D', 'r', 'i', 'v', 'e', 'P', 'l', 'a', 'y', 's'],
  ['c', 'o', 'p', 'y', 'h', 'o', 'l', 'd', '/', 'c', 'o', 'p', 'y', 'h', 'o', 'l', 'd', 'l', 'a', 'w', '0', '5', '.', 'D', 'r', 'i', 'v', 'e', 'N', 'o', 'n', 'e'],
  ['c', 'o', 'p', 'y', 'h', 'o', 'l', 'd', '/', 'c', 'o', 'p', 'y', 'h', 'o', 'l', 'd', 'l', 'a', 'w', '0', '5', '.', 'D', 'r', 'i', 'v', 'e', 'T', 'w', 'o'],
  ['c', 'o', 'p', 'y', 'h', 'o', 'l', 'd', '/', 'c', 'o', 'p', 'y', 'h', 'o', 'l', 'd', 'l', 'a', 'w', '0', '6', '.', 'R', 'e', 'd', 'o', 'H', 'e', 'a', 'd', 's'],
  ['c', 'o', 'p', 'y', 'h', 'o', 'l', 'd', '/', 'c', 'o', 'p', 'y', 'h', 'o', 'l', 'd', 'l', 'a', 'w', '0', '6', '.', 'R', 'e', 'd', 'o', 'L', 'a', 's', 't'],
  ['c', 'o', 'p', 'y', 'h', 'o', 'l', 'd', '/', 'c', 'o', 'p', 'y', 'h', 'o', 'l', 'd', 'l', 'a', 'w', '0', '6', '.', 'R', 'e', 'd', 'o', 'N', 'o', 'n', 'e'],
  ['c', 'o', 'p', 'y', 'h', 'o', 'l', 'd', '/', 'c', 'o', 'p', 'y', 'h', 'o', 'l', 'd', 'l', 'a', 'w', '0', '6', '.', 'R', 'e', 'd', 'o', 'P', 'l', 'a', 'y', 's'],
  ['c', 'o', 'p', 'y', 'h', 'o', 'l', 'd', '/', 'c', 'o', 'p', 'y', 'h', 'o', 'l', 'd', 'l', 'a', 'w', '0', '6', '.', 'R', 'e', 'd', 'o', 'T', 'w', 'i', 'c', 'e']]
theorem words_eq : behindMainWord (wordsSigns Try.prog.initOrder.toList) = ['c', 'u', 't'] :: rootWords := by
  rw [init_list]
  kernel_rfl
theorem later_eq : Try.prog.laysLater = false := by kernel_rfl
theorem reflect_eq : Try.prog.bearsReflect = false := by kernel_rfl
theorem door_eq : Try.prog.doorFits [] = true := by kernel_rfl
theorem make_eq : Try.prog.make = some .cut := make_of _ _ words_eq
theorem lifts_eq : Try.prog.liftsFinal = false := lifts_of _ _ words_eq
theorem mayEnter_eq : Try.prog.mayEnter = true := mayEnter_of _ _ words_eq later_eq reflect_eq door_eq
end Go.Proofs.Ytppbcdcmpcagdaa
