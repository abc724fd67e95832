/-
  The facts on the words at the head of the program: each checked over the list of signs, not over the string.
-/
import Derived.Test.YtmbjbbflhlndcaaRows
import Derived.JoinedOf
import Derived.KernelRfl
namespace Go.Proofs.Ytmbjbbflhlndcaa
open Go
def cs0 : List Char := ['a', 't', ' ', 'l', 'u', 'm', 'p', 'e', 'r', '/', 'l', 'u', 'm', 'p', 'e', 'r', 'l', 'a', 'w', '2', '4', '.', 'C', 'm', 'd', 's', 'T', 'e', 'l', 'l', ' ', 'l', 'u', 'm', 'p', 'e', 'r', '/', 'l', 'u', 'm', 'p', 'e', 'r', 'l', 'a', 'w', '2', '4', '.', 'C', 'm', 'd', 's', 'B', 'a', 'c', 'k', ' ', 'l']
def cs1 : List Char := ['u', 'm', 'p', 'e', 'r', '/', 'l', 'u', 'm', 'p', 'e', 'r', 'l', 'a', 'w', '2', '4', '.', 'C', 'm', 'd', 's', 'J', 'o', 'i', 'n', ' ', 'l', 'u', 'm', 'p', 'e', 'r', '/', 'l', 'u', 'm', 'p', 'e', 'r', 'l', 'a', 'w', '2', '4', '.', 'C', 'm', 'd', 's', 'C', 'u', 't', ' ', 'l', 'u', 'm', 'p', 'e', 'r']
def cs2 : List Char := ['/', 'l', 'u', 'm', 'p', 'e', 'r', 'l', 'a', 'w', '2', '4', '.', 'C', 'm', 'd', 's', 'A', 'p', 'a', 'r', 't', ' ', 'l', 'u', 'm', 'p', 'e', 'r', '/', 'l', 'u', 'm', 'p', 'e', 'r', 'l', 'a', 'w', '0', '8', '.', 'E', 'v', 'e', 'n', 't', 'B', 'a', 'c', 'k', ' ', 'l', 'u', 'm', 'p', 'e', 'r', '/', 'l']
def cs3 : List Char := ['u', 'm', 'p', 'e', 'r', 'l', 'a', 'w', '0', '8', '.', 'E', 'v', 'e', 'n', 't', 'C', 'u', 't', 's', ' ', 'l', 'u', 'm', 'p', 'e', 'r', '/', 'l', 'u', 'm', 'p', 'e', 'r', 'l', 'a', 'w', '0', '8', '.', 'E', 'v', 'e', 'n', 't', 'T', 'e', 'l', 'l', 's', ' ', 'l', 'u', 'm', 'p', 'e', 'r', '/', 'l', 'u']
def cs4 : List Char := ['m', 'p', 'e', 'r', 'l', 'a', 'w', '0', '8', '.', 'E', 'v', 'e', 'n', 't', 'S', 'o', 'r', 't', 's', ' ', 'l', 'u', 'm', 'p', 'e', 'r', '/', 'l', 'u', 'm', 'p', 'e', 'r', 'l', 'a', 'w', '0', '8', '.', 'E', 'v', 'e', 'n', 't', 'T', 'h', 'r', 'e', 'e', ' ', 'l', 'u', 'm', 'p', 'e', 'r', '/', 'l', 'u']
def cs5 : List Char := ['m', 'p', 'e', 'r', 'l', 'a', 'w', '0', '8', '.', 'E', 'v', 'e', 'n', 't', 'S', 'i', 'z', 'e', 's', ' ', 'l', 'u', 'm', 'p', 'e', 'r', '/', 'l', 'u', 'm', 'p', 'e', 'r', 'l', 'a', 'w', '1', '3', '.', 'F', 'i', 'x', 'e', 's', 'T', 'e', 'l', 'l', ' ', 'l', 'u', 'm', 'p', 'e', 'r', '/', 'l', 'u', 'm']
def cs6 : List Char := ['p', 'e', 'r', 'l', 'a', 'w', '1', '3', '.', 'F', 'i', 'x', 'e', 's', 'B', 'a', 'c', 'k', ' ', 'l', 'u', 'm', 'p', 'e', 'r', '/', 'l', 'u', 'm', 'p', 'e', 'r', 'l', 'a', 'w', '1', '3', '.', 'F', 'i', 'x', 'e', 's', 'T', 'u', 'r', 'n', ' ', 'l', 'u', 'm', 'p', 'e', 'r', '/', 'l', 'u', 'm', 'p', 'e']
def cs7 : List Char := ['r', 'l', 'a', 'w', '1', '3', '.', 'F', 'i', 'x', 'e', 's', 'O', 'n', 'l', 'y']
def cs : List Char := cs0 ++ (cs1 ++ (cs2 ++ (cs3 ++ (cs4 ++ (cs5 ++ (cs6 ++ (cs7)))))))
theorem io1 : Try.prog.initOrder = String.ofList ('h' :: 'a' :: 'r' :: 'n' :: 'e' :: 's' :: 's' :: ' ' :: '2' :: '8' :: 'd' :: '8' :: '2' :: 'c' :: '1' :: '7' :: 'c' :: '5' :: '0' :: '8' :: 'd' :: '5' :: '0' :: '0' :: '9' :: 'd' :: '6' :: '3' :: '7' :: '3' :: '1' :: '6' :: '9' :: '3' :: '9' :: 'a' :: '1' :: '4' :: 'b' :: 'f' :: 'd' :: '4' :: 'a' :: '1' :: '1' :: '9' :: '8' :: 'c' :: '9' :: '8' :: '1' :: '8' :: 'd' :: '8' :: '4' :: 'd' :: 'c' :: 'd' :: '8' :: '7' :: '3' :: '8' :: '3' :: 'e' :: 'e' :: 'c' :: 'd' :: 'b' :: 'd' :: 'e' :: '3' :: '8' :: ' ' :: 'c' :: 'u' :: 't' :: ' ' :: cs) := by kernel_rfl
theorem io : Try.prog.initOrder.toList = ('h' :: 'a' :: 'r' :: 'n' :: 'e' :: 's' :: 's' :: ' ' :: '2' :: '8' :: 'd' :: '8' :: '2' :: 'c' :: '1' :: '7' :: 'c' :: '5' :: '0' :: '8' :: 'd' :: '5' :: '0' :: '0' :: '9' :: 'd' :: '6' :: '3' :: '7' :: '3' :: '1' :: '6' :: '9' :: '3' :: '9' :: 'a' :: '1' :: '4' :: 'b' :: 'f' :: 'd' :: '4' :: 'a' :: '1' :: '1' :: '9' :: '8' :: 'c' :: '9' :: '8' :: '1' :: '8' :: 'd' :: '8' :: '4' :: 'd' :: 'c' :: 'd' :: '8' :: '7' :: '3' :: '8' :: '3' :: 'e' :: 'e' :: 'c' :: 'd' :: 'b' :: 'd' :: 'e' :: '3' :: '8' :: ' ' :: 'c' :: 'u' :: 't' :: ' ' :: cs) := by rw [io1]; exact String.toList_ofList
theorem w3 (R : List Char) : behindMainWord (wordsSigns ('h' :: 'a' :: 'r' :: 'n' :: 'e' :: 's' :: 's' :: ' ' :: '2' :: '8' :: 'd' :: '8' :: '2' :: 'c' :: '1' :: '7' :: 'c' :: '5' :: '0' :: '8' :: 'd' :: '5' :: '0' :: '0' :: '9' :: 'd' :: '6' :: '3' :: '7' :: '3' :: '1' :: '6' :: '9' :: '3' :: '9' :: 'a' :: '1' :: '4' :: 'b' :: 'f' :: 'd' :: '4' :: 'a' :: '1' :: '1' :: '9' :: '8' :: 'c' :: '9' :: '8' :: '1' :: '8' :: 'd' :: '8' :: '4' :: 'd' :: 'c' :: 'd' :: '8' :: '7' :: '3' :: '8' :: '3' :: 'e' :: 'e' :: 'c' :: 'd' :: 'b' :: 'd' :: 'e' :: '3' :: '8' :: ' ' :: 'c' :: 'u' :: 't' :: ' ' :: R)) = ['c', 'u', 't'] :: wordsSigns R := by kernel_rfl
theorem make_of (P : Program) (X : List (List Char)) (h : behindMainWord (wordsSigns P.initOrder.toList) = ['c','u','t'] :: X) : P.make = some .cut := by
  unfold Program.make
  rw [h]
  kernel_rfl
theorem lifts_of (P : Program) (X : List (List Char)) (h : behindMainWord (wordsSigns P.initOrder.toList) = ['c','u','t'] :: X) : P.liftsFinal = false := by
  unfold Program.liftsFinal Program.headLifts
  rw [h]
  kernel_rfl
theorem enter_of (P : Program) (X : List (List Char)) (h : behindMainWord (wordsSigns P.initOrder.toList) = ['c','u','t'] :: X) (h1 : P.laysLater = false) (h2 : P.bearsReflect = false) (h3 : P.doorFits [] = true) : P.mayEnter = true := by
  unfold Program.mayEnter
  rw [h]
  show ((false && _) || (false && _) || (true && (_ || !P.laysLater) && (_ || !P.bearsReflect) && _ && P.doorFits []) : Bool) = true
  rw [h1, h2, h3]
  kernel_rfl
theorem head3 : behindMainWord (wordsSigns Try.prog.initOrder.toList) = ['c', 'u', 't'] :: wordsSigns cs := by rw [io, w3]
theorem lays : Try.prog.laysLater = false := by kernel_rfl
theorem refl_ : Try.prog.bearsReflect = false := by kernel_rfl
theorem door : Try.prog.doorFits [] = true := by kernel_rfl
theorem mayEnter : Try.prog.mayEnter = true := enter_of _ _ head3 lays refl_ door
theorem liftsFinal : Try.prog.liftsFinal = false := lifts_of _ _ head3
theorem make : Try.prog.make = some .cut := make_of _ _ head3
end Go.Proofs.Ytmbjbbflhlndcaa
