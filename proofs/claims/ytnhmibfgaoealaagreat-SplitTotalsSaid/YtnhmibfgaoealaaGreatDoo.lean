/-
  The facts on the words at the head of the program: each checked over the list of signs, not over the string.
-/
import Derived.Test.YtnhmibfgaoealaaGreatRows
import Derived.JoinedOf
import Derived.KernelRfl
namespace Go.Proofs.YtnhmibfgaoealaaGreat
open Go
def cs0 : List Char := ['a', 't', ' ', 'l', 'u', 'm', 'p', 'e', 'r', '/', 'l', 'u', 'm', 'p', 'e', 'r', 'l', 'a', 'w', '1', '5', '.', 'B', 'r', 'e', 'a', 'k', 's', 'T', 'e', 'l', 'l', ' ', 'l', 'u', 'm', 'p', 'e', 'r', '/', 'l', 'u', 'm', 'p', 'e', 'r', 'l', 'a', 'w', '1', '7', '.', 'S', 'p', 'l', 'i', 't', 'T', 'e', 'l']
def cs1 : List Char := ['l', 's', ' ', 'l', 'u', 'm', 'p', 'e', 'r', '/', 'l', 'u', 'm', 'p', 'e', 'r', 'l', 'a', 'w', '1', '7', '.', 'S', 'p', 'l', 'i', 't', 'O', 'n', 'c', 'e', ' ', 'l', 'u', 'm', 'p', 'e', 'r', '/', 'l', 'u', 'm', 'p', 'e', 'r', 'l', 'a', 'w', '1', '7', '.', 'S', 'p', 'l', 'i', 't', 'T', 'o', 't', 'a']
def cs2 : List Char := ['l', 's', ' ', 'l', 'u', 'm', 'p', 'e', 'r', '/', 'l', 'u', 'm', 'p', 'e', 'r', 'l', 'a', 'w', '1', '7', '.', 'S', 'p', 'l', 'i', 't', 'O', 'v', 'e', 'r', ' ', 'l', 'u', 'm', 'p', 'e', 'r', '/', 'l', 'u', 'm', 'p', 'e', 'r', 'l', 'a', 'w', '1', '7', '.', 'S', 'p', 'l', 'i', 't', 'W', 'e', 'e', 'k']
def cs3 : List Char := ['s']
def cs : List Char := cs0 ++ (cs1 ++ (cs2 ++ (cs3)))
theorem io1 : Tryz.prog.initOrder = String.ofList ('h' :: 'a' :: 'r' :: 'n' :: 'e' :: 's' :: 's' :: ' ' :: 'e' :: '3' :: 'd' :: '2' :: 'e' :: 'a' :: 'c' :: '0' :: '2' :: 'f' :: 'b' :: '6' :: 'b' :: '0' :: '9' :: '6' :: 'c' :: '8' :: '4' :: '2' :: '3' :: 'a' :: '4' :: 'a' :: 'd' :: '5' :: '9' :: 'e' :: '0' :: '4' :: '5' :: 'b' :: '3' :: '1' :: '3' :: 'c' :: 'c' :: 'c' :: '6' :: '9' :: '9' :: 'f' :: '0' :: '4' :: 'e' :: 'c' :: '7' :: 'd' :: '1' :: '7' :: '6' :: 'b' :: 'c' :: 'e' :: '0' :: '8' :: '2' :: '2' :: '8' :: '5' :: '5' :: 'c' :: '2' :: '4' :: ' ' :: 'c' :: 'u' :: 't' :: ' ' :: cs) := by kernel_rfl
theorem io : Tryz.prog.initOrder.toList = ('h' :: 'a' :: 'r' :: 'n' :: 'e' :: 's' :: 's' :: ' ' :: 'e' :: '3' :: 'd' :: '2' :: 'e' :: 'a' :: 'c' :: '0' :: '2' :: 'f' :: 'b' :: '6' :: 'b' :: '0' :: '9' :: '6' :: 'c' :: '8' :: '4' :: '2' :: '3' :: 'a' :: '4' :: 'a' :: 'd' :: '5' :: '9' :: 'e' :: '0' :: '4' :: '5' :: 'b' :: '3' :: '1' :: '3' :: 'c' :: 'c' :: 'c' :: '6' :: '9' :: '9' :: 'f' :: '0' :: '4' :: 'e' :: 'c' :: '7' :: 'd' :: '1' :: '7' :: '6' :: 'b' :: 'c' :: 'e' :: '0' :: '8' :: '2' :: '2' :: '8' :: '5' :: '5' :: 'c' :: '2' :: '4' :: ' ' :: 'c' :: 'u' :: 't' :: ' ' :: cs) := by rw [io1]; exact String.toList_ofList
theorem w3 (R : List Char) : behindMainWord (wordsSigns ('h' :: 'a' :: 'r' :: 'n' :: 'e' :: 's' :: 's' :: ' ' :: 'e' :: '3' :: 'd' :: '2' :: 'e' :: 'a' :: 'c' :: '0' :: '2' :: 'f' :: 'b' :: '6' :: 'b' :: '0' :: '9' :: '6' :: 'c' :: '8' :: '4' :: '2' :: '3' :: 'a' :: '4' :: 'a' :: 'd' :: '5' :: '9' :: 'e' :: '0' :: '4' :: '5' :: 'b' :: '3' :: '1' :: '3' :: 'c' :: 'c' :: 'c' :: '6' :: '9' :: '9' :: 'f' :: '0' :: '4' :: 'e' :: 'c' :: '7' :: 'd' :: '1' :: '7' :: '6' :: 'b' :: 'c' :: 'e' :: '0' :: '8' :: '2' :: '2' :: '8' :: '5' :: '5' :: 'c' :: '2' :: '4' :: ' ' :: 'c' :: 'u' :: 't' :: ' ' :: R)) = ['c', 'u', 't'] :: wordsSigns R := by kernel_rfl
theorem make_of (P : Program) (X : List (List Char)) (h : behindMainWord (wordsSigns P.initOrder.toList) = ['c','u','t'] :: X) : P.make = some .cut := by
  unfold Program.make
  rw [h]
  kernel_rfl
theorem lifts_of (P : Program) (X : List (List Char)) (h : behindMainWord (wordsSigns P.initOrder.toList) = ['c','u','t'] :: X) : P.liftsFinal = false := by
  unfold Program.liftsFinal Program.headLifts
  rw [h]
  kernel_rfl
theorem enter_of (P : Program) (X : List (List Char)) (h : behindMainWord (wordsSigns P.initOrder.toList) = ['c','u','t'] :: X) (h1 : P.laysLater = false) (h2 : P.bearsReflect = false) (h3 : P.doorFits [] = true) : P.mayEnter = true := by
  unfold Program.mayEnter
  rw [h]
  show ((false && _) || (false && _) || (true && (_ || !P.laysLater) && (_ || !P.bearsReflect) && _ && P.doorFits []) : Bool) = true
  rw [h1, h2, h3]
  kernel_rfl
theorem head3 : behindMainWord (wordsSigns Tryz.prog.initOrder.toList) = ['c', 'u', 't'] :: wordsSigns cs := by rw [io, w3]
theorem lays : Tryz.prog.laysLater = false := by kernel_rfl
theorem refl_ : Tryz.prog.bearsReflect = false := by kernel_rfl
theorem door : Tryz.prog.doorFits [] = true := by kernel_rfl
theorem mayEnter : Tryz.prog.mayEnter = true := enter_of _ _ head3 lays refl_ door
theorem liftsFinal : Tryz.prog.liftsFinal = false := lifts_of _ _ head3
theorem make : Tryz.prog.make = some .cut := make_of _ _ head3
end Go.Proofs.YtnhmibfgaoealaaGreat
