/-
  The facts on the words at the head of the program: each checked over the list of signs, not over the string.
-/
import Derived.Test.YtnhmibfgaoealaaRows
import Derived.JoinedOf
import Derived.KernelRfl
namespace Go.Proofs.Ytnhmibfgaoealaa
open Go
def cs0 : List Char := ['a', 't', ' ', 'l', 'u', 'm', 'p', 'e', 'r', '/', 'l', 'u', 'm', 'p', 'e', 'r', 'l', 'a', 'w', '1', '1', '.', 'P', 'u', 'n', 'c', 'h', 'R', 'o', 'u', 'n', 'd', 's', ' ', 'l', 'u', 'm', 'p', 'e', 'r', '/', 'l', 'u', 'm', 'p', 'e', 'r', 'l', 'a', 'w', '1', '1', '.', 'P', 'u', 'n', 'c', 'h', 'D', 'a']
def cs1 : List Char := ['y', 's', ' ', 'l', 'u', 'm', 'p', 'e', 'r', '/', 'l', 'u', 'm', 'p', 'e', 'r', 'l', 'a', 'w', '1', '1', '.', 'P', 'u', 'n', 'c', 'h', 'P', 'a', 'r', 't', 's', ' ', 'l', 'u', 'm', 'p', 'e', 'r', '/', 'l', 'u', 'm', 'p', 'e', 'r', 'l', 'a', 'w', '0', '3', '.', 'S', 'p', 'a', 'n', 'T', 'e', 'l', 'l']
def cs2 : List Char := ['s', ' ', 'l', 'u', 'm', 'p', 'e', 'r', '/', 'l', 'u', 'm', 'p', 'e', 'r', 'l', 'a', 'w', '0', '3', '.', 'S', 'p', 'a', 'n', 'H', 'a', 's', ' ', 'l', 'u', 'm', 'p', 'e', 'r', '/', 'l', 'u', 'm', 'p', 'e', 'r', 'l', 'a', 'w', '0', '3', '.', 'S', 'p', 'a', 'n', 'P', 'l', 'a', 'i', 'n', ' ', 'l', 'u']
def cs3 : List Char := ['m', 'p', 'e', 'r', '/', 'l', 'u', 'm', 'p', 'e', 'r', 'l', 'a', 'w', '0', '3', '.', 'S', 'p', 'a', 'n', 'S', 'i', 'z', 'e', 's', ' ', 'l', 'u', 'm', 'p', 'e', 'r', '/', 'l', 'u', 'm', 'p', 'e', 'r', 'l', 'a', 'w', '0', '3', '.', 'S', 'p', 'a', 'n', 'E', 'n', 'd', 's', ' ', 'l', 'u', 'm', 'p', 'e']
def cs4 : List Char := ['r', '/', 'l', 'u', 'm', 'p', 'e', 'r', 'l', 'a', 'w', '0', '3', '.', 'S', 'p', 'a', 'n', 'O', 'r', 'd', 'e', 'r', ' ', 'l', 'u', 'm', 'p', 'e', 'r', '/', 'l', 'u', 'm', 'p', 'e', 'r', 'l', 'a', 'w', '1', '1', '.', 'P', 'u', 'n', 'c', 'h', 'H', 'a', 's', ' ', 'l', 'u', 'm', 'p', 'e', 'r', '/', 'l']
def cs5 : List Char := ['u', 'm', 'p', 'e', 'r', 'l', 'a', 'w', '1', '4', '.', 'N', 'i', 'g', 'h', 't', 'T', 'e', 'l', 'l', 's', ' ', 'l', 'u', 'm', 'p', 'e', 'r', '/', 'l', 'u', 'm', 'p', 'e', 'r', 'l', 'a', 'w', '1', '4', '.', 'N', 'i', 'g', 'h', 't', 'H', 'a', 's', ' ', 'l', 'u', 'm', 'p', 'e', 'r', '/', 'l', 'u', 'm']
def cs6 : List Char := ['p', 'e', 'r', 'l', 'a', 'w', '1', '4', '.', 'N', 'i', 'g', 'h', 't', 'D', 'a', 'y', 's', ' ', 'l', 'u', 'm', 'p', 'e', 'r', '/', 'l', 'u', 'm', 'p', 'e', 'r', 'l', 'a', 'w', '1', '4', '.', 'N', 'i', 'g', 'h', 't', 'S', 'i', 'z', 'e', 's', ' ', 'l', 'u', 'm', 'p', 'e', 'r', '/', 'l', 'u', 'm', 'p']
def cs7 : List Char := ['e', 'r', 'l', 'a', 'w', '1', '4', '.', 'N', 'i', 'g', 'h', 't', 'T', 'u', 'r', 'n', 's', ' ', 'l', 'u', 'm', 'p', 'e', 'r', '/', 'l', 'u', 'm', 'p', 'e', 'r', 'l', 'a', 'w', '1', '6', '.', 'O', 'v', 'e', 'r', 'T', 'e', 'l', 'l', 's', ' ', 'l', 'u', 'm', 'p', 'e', 'r', '/', 'l', 'u', 'm', 'p', 'e']
def cs8 : List Char := ['r', 'l', 'a', 'w', '1', '6', '.', 'O', 'v', 'e', 'r', 'W', 'e', 'e', 'k', 's', ' ', 'l', 'u', 'm', 'p', 'e', 'r', '/', 'l', 'u', 'm', 'p', 'e', 'r', 'l', 'a', 'w', '1', '6', '.', 'O', 'v', 'e', 'r', 'M', 'a', 'k', 'e', 's', ' ', 'l', 'u', 'm', 'p', 'e', 'r', '/', 'l', 'u', 'm', 'p', 'e', 'r', 'l']
def cs9 : List Char := ['a', 'w', '1', '6', '.', 'O', 'v', 'e', 'r', 'S', 'i', 'z', 'e', 's', ' ', 'l', 'u', 'm', 'p', 'e', 'r', '/', 'l', 'u', 'm', 'p', 'e', 'r', 'l', 'a', 'w', '1', '5', '.', 'B', 'r', 'e', 'a', 'k', 's', 'M', 'a', 'k', 'e', ' ', 'l', 'u', 'm', 'p', 'e', 'r', '/', 'l', 'u', 'm', 'p', 'e', 'r', 'l', 'a']
def cs10 : List Char := ['w', '1', '5', '.', 'B', 'r', 'e', 'a', 'k', 's', 'S', 'i', 'z', 'e', 's', ' ', 'l', 'u', 'm', 'p', 'e', 'r', '/', 'l', 'u', 'm', 'p', 'e', 'r', 'l', 'a', 'w', '1', '5', '.', 'B', 'r', 'e', 'a', 'k', 's', 'D', 'a', 'y', 's', ' ', 'l', 'u', 'm', 'p', 'e', 'r', '/', 'l', 'u', 'm', 'p', 'e', 'r', 'l']
def cs11 : List Char := ['a', 'w', '1', '5', '.', 'B', 'r', 'e', 'a', 'k', 's', 'F', 'i', 'r', 's', 't']
def cs : List Char := cs0 ++ (cs1 ++ (cs2 ++ (cs3 ++ (cs4 ++ (cs5 ++ (cs6 ++ (cs7 ++ (cs8 ++ (cs9 ++ (cs10 ++ (cs11)))))))))))
theorem io1 : Try.prog.initOrder = String.ofList ('h' :: 'a' :: 'r' :: 'n' :: 'e' :: 's' :: 's' :: ' ' :: 'b' :: '9' :: '3' :: '0' :: 'a' :: 'e' :: '7' :: '8' :: '3' :: '2' :: '4' :: '7' :: '4' :: 'c' :: 'f' :: '4' :: '4' :: '7' :: 'a' :: 'f' :: '9' :: 'e' :: '4' :: 'e' :: 'd' :: 'd' :: '1' :: '5' :: '8' :: 'd' :: '9' :: 'b' :: 'd' :: 'f' :: '3' :: '7' :: '4' :: 'f' :: '0' :: 'e' :: '2' :: 'c' :: '0' :: 'a' :: '2' :: '4' :: '2' :: 'f' :: 'f' :: '1' :: 'e' :: '0' :: '2' :: 'b' :: '1' :: '3' :: '8' :: 'd' :: 'b' :: '0' :: '5' :: '0' :: 'e' :: 'e' :: ' ' :: 'c' :: 'u' :: 't' :: ' ' :: cs) := by kernel_rfl
theorem io : Try.prog.initOrder.toList = ('h' :: 'a' :: 'r' :: 'n' :: 'e' :: 's' :: 's' :: ' ' :: 'b' :: '9' :: '3' :: '0' :: 'a' :: 'e' :: '7' :: '8' :: '3' :: '2' :: '4' :: '7' :: '4' :: 'c' :: 'f' :: '4' :: '4' :: '7' :: 'a' :: 'f' :: '9' :: 'e' :: '4' :: 'e' :: 'd' :: 'd' :: '1' :: '5' :: '8' :: 'd' :: '9' :: 'b' :: 'd' :: 'f' :: '3' :: '7' :: '4' :: 'f' :: '0' :: 'e' :: '2' :: 'c' :: '0' :: 'a' :: '2' :: '4' :: '2' :: 'f' :: 'f' :: '1' :: 'e' :: '0' :: '2' :: 'b' :: '1' :: '3' :: '8' :: 'd' :: 'b' :: '0' :: '5' :: '0' :: 'e' :: 'e' :: ' ' :: 'c' :: 'u' :: 't' :: ' ' :: cs) := by rw [io1]; exact String.toList_ofList
theorem w3 (R : List Char) : behindMainWord (wordsSigns ('h' :: 'a' :: 'r' :: 'n' :: 'e' :: 's' :: 's' :: ' ' :: 'b' :: '9' :: '3' :: '0' :: 'a' :: 'e' :: '7' :: '8' :: '3' :: '2' :: '4' :: '7' :: '4' :: 'c' :: 'f' :: '4' :: '4' :: '7' :: 'a' :: 'f' :: '9' :: 'e' :: '4' :: 'e' :: 'd' :: 'd' :: '1' :: '5' :: '8' :: 'd' :: '9' :: 'b' :: 'd' :: 'f' :: '3' :: '7' :: '4' :: 'f' :: '0' :: 'e' :: '2' :: 'c' :: '0' :: 'a' :: '2' :: '4' :: '2' :: 'f' :: 'f' :: '1' :: 'e' :: '0' :: '2' :: 'b' :: '1' :: '3' :: '8' :: 'd' :: 'b' :: '0' :: '5' :: '0' :: 'e' :: 'e' :: ' ' :: 'c' :: 'u' :: 't' :: ' ' :: R)) = ['c', 'u', 't'] :: wordsSigns R := by kernel_rfl
theorem make_of (P : Program) (X : List (List Char)) (h : behindMainWord (wordsSigns P.initOrder.toList) = ['c','u','t'] :: X) : P.make = some .cut := by
  unfold Program.make
  rw [h]
  kernel_rfl
theorem lifts_of (P : Program) (X : List (List Char)) (h : behindMainWord (wordsSigns P.initOrder.toList) = ['c','u','t'] :: X) : P.liftsFinal = false := by
  unfold Program.liftsFinal Program.headLifts
  rw [h]
  kernel_rfl
theorem enter_of (P : Program) (X : List (List Char)) (h : behindMainWord (wordsSigns P.initOrder.toList) = ['c','u','t'] :: X) (h1 : P.laysLater = false) (h2 : P.bearsReflect = false) (h3 : P.doorFits [] = true) : P.mayEnter = true := by
  unfold Program.mayEnter
  rw [h]
  show ((false && _) || (false && _) || (true && (_ || !P.laysLater) && (_ || !P.bearsReflect) && _ && P.doorFits []) : Bool) = true
  rw [h1, h2, h3]
  kernel_rfl
theorem head3 : behindMainWord (wordsSigns Try.prog.initOrder.toList) = ['c', 'u', 't'] :: wordsSigns cs := by rw [io, w3]
theorem lays : Try.prog.laysLater = false := by kernel_rfl
theorem refl_ : Try.prog.bearsReflect = false := by kernel_rfl
theorem door : Try.prog.doorFits [] = true := by kernel_rfl
theorem mayEnter : Try.prog.mayEnter = true := enter_of _ _ head3 lays refl_ door
theorem liftsFinal : Try.prog.liftsFinal = false := lifts_of _ _ head3
theorem make : Try.prog.make = some .cut := make_of _ _ head3
end Go.Proofs.Ytnhmibfgaoealaa
