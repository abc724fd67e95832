/-
  Small laws of memory words.
-/
import Derived.Test.YtmbjbbflhlndcaaJw
namespace Go.Proofs.Ytmbjbbflhlndcaa
open Go.RowKit BigFrame
set_option linter.unusedVariables false
set_option linter.unusedSimpArgs false

def nth (l : List Nat) (i : Nat) : Int := ((l[i]?).getD 0 : Nat)
theorem own_cap {w : World} {base e size n cap : Nat} {A : Option Addr} {xs : List Value} (h : w.ownsRow base e size (.slice A n cap) n xs) : n ≤ cap ∧ cap ≤ maxLen := by
  obtain ⟨A', c', hv, h1, h2⟩ := own_form h
  cases hv
  exact ⟨h1, h2⟩
theorem store_newE {P : Program} {ops : Array Oper} {rest : List Oper} {o : Oper} {a : Act} {w : World} {Q : Exit → Act → World → Prop} (hgd : Region.wanted o (yielded ops a.tmps) = true) (ty : TypeId) (x y : Operand) (ho : o.op = .store ty x y)
    (w0 : World) (g : Nat) (hg : g = w0.heap.size) (c c' : Array Value) (t : TypeId) (hw : w = w0.alloc (.cells c t)) (hx : a.eval x = .pointer (some ⟨g, 0, none⟩)) (hy : a.eval y = .agg c') (hi : (P.info? ty).map (·.size) = some c'.size) (hc : c.size = c'.size) (h1 : c'.all (·.oneCell') = true)
    (h : wpList P ops Q rest (a.put o.dst undef) (w0.alloc (.cells c' t))) : wpList P ops Q (o :: rest) a w := by
  subst hg; subst hw
  refine wpList_step fun K hK => ?_
  rw [if_pos hgd]
  refine wp_store_row ty x y ho w0.heap.size c' hx hy t c (heap_alloc_last w0 _) hi hc h1 ?_
  rw [World.setRow_alloc_new]
  exact hK _ _ h

theorem load_boxE {P : Program} {ops : Array Oper} {rest : List Oper} {o : Oper} {a : Act} {w : World} {Q : Exit → Act → World → Prop} (hgd : Region.wanted o (yielded ops a.tmps) = true) (ty : TypeId) (x : Operand) (ho : o.op = .load ty x)
    (g : Nat) (hx : a.eval x = .pointer (some ⟨g, 0, none⟩)) (cs : List Value) (c : Array Value) (hc : cs.toArray = c) (t : TypeId) (hg : Bx w g cs t) (d : TypeDesc)
    (hu : P.underlying ty = some d) (hd : (match d with | .struct _ | .array _ _ => true | _ => false) = true) (hi : (P.info? ty).map (·.size) = some c.size)
    (h : wpList P ops Q rest (a.put o.dst (.agg c)) w) : wpList P ops Q (o :: rest) a w := by
  subst hc
  exact load_box hgd ty x ho g hx cs t hg d hu hd hi h
theorem one_le9 {n : Int} (h0 : 0 ≤ n) (h : B64 n) : (one n.toNat).length ≤ 9 := by
  unfold B64 at h
  rw [one_len]
  have := needN_8 (n := n.toNat) (by omega)
  omega
theorem one_pos (n : Nat) : 1 ≤ (one n).length := by rw [one_len]; omega
theorem load_midG {ops : Array Oper} {rest : List Oper} {o : Oper} {a : Act} {w : World} {Q : Exit → Act → World → Prop} (hgd : Region.wanted o (yielded ops a.tmps) = true) (ty : TypeId) (x : Operand) (ho : o.op = .load ty x)
    (b off : Nat) (hx : a.eval x = .pointer (some ⟨b, off, none⟩)) (cs : List Value) (d : TypeDesc) (hc : w.rangeAt b off cs)
    (hu : Try.prog.underlying ty = some d) (hd : d.isRow = true) (hi : (Try.prog.info? ty).map (·.size) = some cs.length)
    (h : wpList Try.prog ops Q rest (a.put o.dst (.agg cs.toArray)) w) : wpList Try.prog ops Q (o :: rest) a w := by
  refine wpList_step fun K hK => ?_
  rw [if_pos hgd]
  exact wp_load_mid ty x ho b off hx cs d hc hu hd hi (hK _ _ h)
theorem b64_nat {n : Nat} (h : n < 9223372036854775808) : B64 (n : Int) := by unfold B64; omega
def lenV : Value → Nat
  | .slice _ n _ => n
  | _ => 0

theorem b64_nth {l : List Nat} (h : ∀ n ∈ l, n < 9223372036854775808) (i : Nat) : B64 (nth l i) := by
  unfold nth
  cases hl : l[i]? with
  | none => unfold B64; simp
  | some x => exact b64_nat (h x (List.mem_of_getElem? hl))
end Go.Proofs.Ytmbjbbflhlndcaa
