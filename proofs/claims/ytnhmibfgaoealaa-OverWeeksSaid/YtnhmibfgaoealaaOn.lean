/-
  over.Of: what its loop holds.
-/
import Derived.Test.YtnhmibfgaoealaaOm
import Derived.Test.YtnhmibfgaoealaaKh
import Derived.Test.YtnhmibfgaoealaaDc
import Derived.Test.YtnhmibfgaoealaaKa
namespace Go.Proofs.Ytnhmibfgaoealaa
open Go.RowKit BigFrame
set_option linter.unusedVariables false
set_option linter.unusedSimpArgs false

theorem days_over (a : Option Addr) (len cap : Nat) (w : World) :
    Calls Try.prog 92 #[.slice a len cap] w fun e w' => e = .returned (.func (.func 126) #[] #[.pointer (some ⟨w.heap.size, 0, none⟩)]) ∧ w' = w.alloc (.cells #[.slice a len cap] 40) := by
  go_enter Try.func92, Try.ntmps92
  go_wp2
  go_ret
  exact ⟨rfl, rfl⟩

theorem first_day {w : World} {B : Nat} {A : Option Addr} {l : List Sp.S} {c : Nat} (hb : Boxed w B 40 (.slice A l.length c)) (h : Rs w A l) (hl : l.length ≤ 900000) {n : Int} (hn : B64 n) :
    Calls Try.prog 93 #[.int .i64 n, .pointer (some ⟨B, 0, none⟩)] w (RetS w (Sp.first l n)) := by
  have cB := hb.cell
  have k := cFirst h hl hn c
  replace k := Lib.hid k
  clear hb h
  go_enter Try.func93, Try.ntmps93
  go_wp2_with fail
  refine k.out.mono ?_
  rintro e w1 ⟨A1, c1, rfl, r1, x1, o1⟩
  replace r1 := Lib.hid r1; replace o1 := Lib.hid o1
  go_wp2
  go_ret
  exact ⟨A1, c1, rfl, r1.out, x1, o1.out⟩

def catF (n : Int) (pre : List Dy) : List Sp.S := pre.flatMap fun z => Sp.first z.2.2 n
theorem catF_snoc (n : Int) (pre : List Dy) (z : Dy) : catF n (pre ++ [z]) = catF n pre ++ Sp.first z.2.2 n := by simp [catF, List.flatMap_append]
theorem catF_len (n : Int) (pre : List Dy) (h : ∀ z ∈ pre, z.2.2.length ≤ 1002) (hp : pre.length ≤ 371) : (catF n pre).length ≤ 371742 := by
  have := flatMap_len (fun z : Dy => Sp.first z.2.2 n) 1002 pre fun z hz => Nat.le_trans (first_length _ _) (h z hz)
  unfold catF
  have : pre.length * 1002 ≤ 371 * 1002 := Nat.mul_le_mul_right _ hp
  omega
def daysOf (l : List Sp.S) : List (List Sp.S) := (daysL (Sp.norm l)).map fun d => partS l d 86400
theorem catF_days {L : List Sp.S} {xs : List Dy} (h : xs.map (·.2.2) = daysOf L) (n : Int) : catF n xs = shortL L n := by
  have e : catF n xs = (xs.map (·.2.2)).flatMap fun z => Sp.first z n := by unfold catF; rw [List.flatMap_map]
  rw [e, h]
  unfold daysOf shortL
  rw [List.flatMap_map]

theorem ownFrom_kp2 {β : Type} (B x y : Nat) (w : World) : OwnFrom B (fun (_ : β) W => Kp2 x y w W) := fun _ W W' row hs hg hr =>
  hs.trans ⟨hg.size, fun k c t fr a b e => (hg.block k (Array.getElem?_eq_some_iff.1 e).1 (fun e' => by
    obtain ⟨_, o, ho, hc⟩ := hr k e'.symm
    rw [e] at ho; cases ho; cases hc)).trans e⟩

/-- What holds between the rounds: the two boxes hold slices of what was gathered; nothing else was written. -/
def OfI (w0 w : World) (x y n₀ : Nat) (R O : Int) (pre : List Dy) (W : World) : Prop :=
  (∃ v, Boxed W x 40 v ∧ W.ownsRow n₀ 42 2 v (catF R pre).length (flat encS (catF R pre)) ∧ True) ∧
  (∃ v, Boxed W y 40 v ∧ W.ownsRow n₀ 42 2 v (catF O pre).length (flat encS (catF O pre)) ∧ True) ∧
  Below w0.heap.size w0 W ∧ Kp2 x y w W ∧ ∀ z ∈ pre, z.2.2.length ≤ 1002
theorem OfI.own (w0 w : World) (x y n₀ : Nat) (R O : Int) (h1 : w0.heap.size ≤ w.heap.size) : OwnFrom w.heap.size (OfI w0 w x y n₀ R O) :=
  OwnFrom.and (Own.from (holdsRow_own n₀ x 40 42 2 (fun pre : List Dy => (catF R pre).length) (fun pre => flat encS (catF R pre)) (fun _ _ => True)) _)
    (OwnFrom.and (Own.from (holdsRow_own n₀ y 40 42 2 (fun pre : List Dy => (catF O pre).length) (fun pre => flat encS (catF O pre)) (fun _ _ => True)) _)
      (OwnFrom.and (ownFrom_below (Nat.le_refl _) h1) (OwnFrom.and (ownFrom_kp2 _ x y w) (fun _ _ _ _ h _ _ => h))))

theorem Ext.below0 {w0 W w' : World} (h : Below w0.heap.size w0 W) (k : Ext W w') : Below w0.heap.size w0 w' := h.trans (Below.mono k h.size)
theorem of_round {w0 w W w13 : World} {x y n₀ B : Nat} {R O : Int} {pre : List Dy} {z : Dy} {v9 v10 : Value} {A6 A13 : Option Addr} {c6 c13 : Nat}
    (h9 : Boxed W x 40 v9) (h10 : Boxed W y 40 v10) (hxy : x ≠ y) (hx0 : w0.heap.size ≤ x) (hy0 : w0.heap.size ≤ y) (hbel : Below w0.heap.size w0 W) (hkp : Kp2 x y w W) (hall : ∀ z ∈ pre, z.2.2.length ≤ 1002) (hz : z.2.2.length ≤ 1002) (X : Ext W w13)
    (o6 : w13.ownsRow n₀ 42 2 (.slice A6 (catF R pre ++ Sp.first z.2.2 R).length c6) (catF R pre ++ Sp.first z.2.2 R).length (flat encS (catF R pre ++ Sp.first z.2.2 R)))
    (o13 : w13.ownsRow n₀ 42 2 (.slice A13 (catF O pre ++ Sp.first z.2.2 O).length c13) (catF O pre ++ Sp.first z.2.2 O).length (flat encS (catF O pre ++ Sp.first z.2.2 O))) :
    KeepsFrom B W ((w13.setCell ⟨x, 0, none⟩ (.slice A6 (catF R pre ++ Sp.first z.2.2 R).length c6)).setCell ⟨y, 0, none⟩ (.slice A13 (catF O pre ++ Sp.first z.2.2 O).length c13)) ∧
    Kp2 x y W ((w13.setCell ⟨x, 0, none⟩ (.slice A6 (catF R pre ++ Sp.first z.2.2 R).length c6)).setCell ⟨y, 0, none⟩ (.slice A13 (catF O pre ++ Sp.first z.2.2 O).length c13)) ∧
    OfI w0 w x y n₀ R O (pre ++ [z]) ((w13.setCell ⟨x, 0, none⟩ (.slice A6 (catF R pre ++ Sp.first z.2.2 R).length c6)).setCell ⟨y, 0, none⟩ (.slice A13 (catF O pre ++ Sp.first z.2.2 O).length c13)) := by
  have hte : 40 ≠ 42 := by decide
  have b9 : Boxed w13 x 40 v9 := (X.block x h9.lt).trans h9
  have b10 : Boxed w13 y 40 v10 := (X.block y h10.lt).trans h10
  unfold OfI
  rw [catF_snoc, catF_snoc]
  generalize Value.slice A6 (catF R pre ++ Sp.first z.2.2 R).length c6 = u6 at *
  generalize Value.slice A13 (catF O pre ++ Sp.first z.2.2 O).length c13 = u13 at *
  have p9 := b9.set u6
  have p10 : Boxed (w13.setCell ⟨x, 0, none⟩ u6) y 40 v10 := b10.other (Ne.symm hxy) u6
  have q9 : Boxed ((w13.setCell ⟨x, 0, none⟩ u6).setCell ⟨y, 0, none⟩ u13) x 40 u6 := p9.other hxy u13
  have q10 := p10.set u13
  have s6 := o6.kept (grownBy_setCell' w13 x u6) (.inr (b9.not_row hte o6).symm)
  have s13 := o13.kept (grownBy_setCell' w13 x u6) (.inr (b9.not_row hte o13).symm)
  have t6 := s6.kept (grownBy_setCell' _ y u13) (.inr (p10.not_row hte s6).symm)
  have t13 := s13.kept (grownBy_setCell' _ y u13) (.inr (p10.not_row hte s13).symm)
  have k1 : Kp2 x y W ((w13.setCell ⟨x, 0, none⟩ u6).setCell ⟨y, 0, none⟩ u13) := ((Kp2.ext X).trans (Kp2.grown (grownBy_setCell' w13 x u6) fun r e => by cases e; exact .inl rfl)).trans (Kp2.grown (grownBy_setCell' _ y u13) fun r e => by cases e; exact .inr rfl)
  refine ⟨(((KeepsOthers.of_grownBy X.grown0 fun _ _ e => by cases e).trans (KeepsOthers.setCell _ _ _)).trans (KeepsOthers.setCell _ _ _)).from _, k1, ⟨_, q9, t6, trivial⟩, ⟨_, q10, t13, trivial⟩, ?_, hkp.trans k1, ?_⟩
  · exact ((Ext.below0 hbel X).setCell (p := ⟨x, 0, none⟩) hx0 u6).setCell (p := ⟨y, 0, none⟩) hy0 u13
  · intro a ha
    rcases List.mem_append.1 ha with h | h
    · exact hall a h
    · simp at h; subst h; exact hz

/-- The day that a round was handed lies in a box of its own. -/
def OfA (z : Dy) (n₀ : Nat) (B : Nat) (W : World) : Prop := (∃ v, Boxed W B 40 v ∧ W.ownsRow n₀ 42 2 v z.2.2.length (flat encS z.2.2) ∧ v = .slice z.1 z.2.2.length z.2.1) ∧ z.2.2.length ≤ 1002
theorem OfA.own (z : Dy) (n₀ B : Nat) : Own (fun (_ : Unit) W => OfA z n₀ B W) := fun s W W' row h hg hr =>
  ⟨holdsRow_own n₀ B 40 42 2 (fun _ : Unit => z.2.2.length) (fun _ => flat encS z.2.2) (fun _ v => v = .slice z.1 z.2.2.length z.2.1) () W W' row h.1 hg hr, h.2⟩
end Go.Proofs.Ytnhmibfgaoealaa
