/-
  Words for layer 11: the day put behind the others (the closure in Days).
-/
import Derived.RangeFuncBox
import Derived.Test.YtnhmibfgaoealaaPw
namespace Go.Proofs.Ytnhmibfgaoealaa
open Go.RowKit


theorem info_int : (Try.prog.info? 3).map (fun i => (i.zero, i.size, i.bytes)) = some (some (.int .i64 0), 1, 8) := by kernel_rfl

theorem app_int {ops : Array Oper} {rest : List Oper} {o : Oper} {a : Act} {Q : Exit → Act → World → Prop} (w : World) (s x : Operand) (hgd : o.guard = none)
    (ho : o.op = .call { callee := .builtin .append, args := #[s, x], argTypes := #[32, 32] })
    (base n : Nat) (v : Value) (l : List Int) (hs : a.eval s = v) (hown : w.ownsRow base 3 1 v n (flat encN l)) (p : Int) (g c : Nat)
    (hx : a.eval x = .slice (some ⟨g, 0, none⟩) 1 c) (h0 : w.cell? ⟨g, 0, none⟩ = some (.int .i64 p))
    (hn : n ≤ 4000000000000) (hbase : base ≤ w.heap.size)
    (h : ∀ v' w', w'.ownsRow base 3 1 v' (n + 1) (flat encN (l ++ [p])) → w.grownBy w' v.ownBlock → wpList Try.prog ops Q rest (a.put o.dst v') w') : wpList Try.prog ops Q (o :: rest) a w := by
  obtain ⟨i0, hi, hz0, hz1, hz2⟩ := info_parts info_int
  refine wpList_append_at w hgd s x 32 ho base 3 i0 (.int .i64 0) 1 8 Try.underlying32 hi hz0 hz1 hz2 rfl (by decide) v n (flat encN l) hs hown ⟨g, 0, none⟩ 1 c [.int .i64 p] hx rfl ?_ ?_ (by unfold maxLen; omega) (by omega) hbase ?_
  · intro j u hu
    match j, hu with
    | 0, hu => simp at hu; subst hu; simpa [Addr.add] using h0
    | j + 1, hu => simp at hu
  · intro u hu; simp at hu; subst hu; rfl
  · intro v' w' ho' hg _
    exact h v' w' (by rw [flat_append]; exact ho') hg

theorem own_lastN {w : World} {base e n cap : Nat} {A : Option Addr} {o : List Int} {p : Int} (h : w.ownsRow base e 1 (.slice A n cap) n (flat encN (o ++ [p]))) (hn : n = o.length + 1) :
    ∃ g, A = some ⟨g, 0, none⟩ ∧ w.cell? ⟨g, o.length, none⟩ = some (.int .i64 p) := by
  subst hn
  have hr : Rn w A (o ++ [p]) := Rn.own (by simpa using h)
  obtain ⟨b, off, q, rfl, _, hq, hc⟩ := hr.atN (Below.refl _ _) (show o.length < (o ++ [p]).length by simp)
  have : q = p := by have := hq.out; simp at this; exact this.symm
  subst this
  rcases h.2 with ⟨h0, _⟩ | ⟨g, _, _, h0, _⟩
  · cases h0
  · cases h0
    exact ⟨_, rfl, by simpa using hc⟩

theorem put_done {W w1 : World} {n₀ B k m : Nat} {v v' : Value} {xs ys : List Value} {tmp : Obj} (hv : Boxed W B 32 v) (hrow : W.ownsRow n₀ 3 1 v k xs) (hn₀ : n₀ ≤ W.heap.size) (hB : B < n₀)
    (hown' : w1.ownsRow n₀ 3 1 v' m ys) (hgrow : (W.alloc tmp).grownBy w1 v.ownBlock) :
    Boxed w1 B 32 v ∧ Boxed (w1.setCell ⟨B, 0, none⟩ v') B 32 v' ∧ (w1.setCell ⟨B, 0, none⟩ v').ownsRow n₀ 3 1 v' m ys ∧ (Below B W (w1.setCell ⟨B, 0, none⟩ v') ∧ Mid (B + 1) n₀ W (w1.setCell ⟨B, 0, none⟩ v')) := by
  have hte : 32 ≠ 3 := by decide
  have hv1 : Boxed w1 B 32 v := (hv.alloc tmp).kept hgrow (hv.not_row hte hrow)
  have hr : ∀ g, v.ownBlock = some g → n₀ ≤ g := fun g hg => (hrow.lt g hg).1
  exact ⟨hv1, hv1.set v', hown'.kept (grownBy_setCell' w1 B v') (.inr (hv1.not_row hte hown').symm),
    (((Below.refl B W).alloc (by omega) tmp).grown hgrow (by simp; omega) fun g hg => by have := hr g hg; omega).setCell (p := ⟨B, 0, none⟩) (Nat.le_refl _) v',
    (((Mid.refl (B + 1) n₀ W).alloc hn₀ tmp).grown hn₀ hgrow fun g hg => .inr (hr g hg)).grown hn₀ (grownBy_setCell' w1 B v') fun g hg => by cases hg; exact .inl (Nat.lt_succ_self _)⟩

set_option maxRecDepth 100000 in
theorem pPut (n₀ B : Nat) (out : List Int) (v : Value) (d : Int) (w : World) (hv : Boxed w B 32 v) (hown : w.ownsRow n₀ 3 1 v out.length (flat encN out)) (hn₀ : n₀ ≤ w.heap.size) (hB : B < n₀) (hl : out.length ≤ 4000000000) :
    Calls Try.prog 74 #[.int .i64 d, .pointer (some ⟨B, 0, none⟩)] w fun e w' => (∃ r, e = .returned r) ∧ ∃ v', Boxed w' B 32 v' ∧ w'.ownsRow n₀ 3 1 v' (putL out d).length (flat encN (putL out d)) ∧ Below B w w' ∧ Mid (B + 1) n₀ w w' := by
  have hc := hv.cell
  have hfz := hv.frozen
  obtain ⟨A, cap, rfl, _, _⟩ := own_form hown
  rcases List.eq_nil_or_concat out with rfl | ⟨o, x, ho⟩
  · have HV := Lib.hid hv; have HO := Lib.hid hown
    rw [putL_nil]
    clear hv hown
    go_enter Try.func74, Try.ntmps74
    go_wp2_with (at_builtin; refine app_int _ _ _ rfl rfl n₀ 0 _ [] rfl (HO.out.alloc _) d w.heap.size 1 rfl (by go_simp) (by omega) (by simp; omega) ?_; intro v' w1 hown' hgrow; obtain ⟨A', cap', rfl, _, _⟩ := own_form hown'; obtain ⟨b1, b2, b3, b5⟩ := put_done HV.out HO.out hn₀ hB hown' hgrow; have k1 := b1.cell; have k2 := b1.frozen; replace b2 := Lib.hid b2; replace b3 := Lib.hid b3; replace b5 := Lib.hid b5; clear b1 hown' hgrow)
    go_end0
    exact ⟨⟨_, rfl⟩, _, b2.out, b3.out, b5.out.1, b5.out.2⟩
  · rw [List.concat_eq_append] at ho
    subst ho
    rw [show (o ++ [x]).length = o.length + 1 from by simp] at hown hl hc hv
    obtain ⟨g, rfl, hg⟩ := own_lastN hown rfl
    have HV := Lib.hid hv; have HO := Lib.hid hown
    have f0 : ((o.length : Int) + 1 == 0) = false := beq_false_of_ne (by omega)
    have q1 : IntKind.i64.wrap (o.length : Int) = o.length := IntWalk.i64_in _ (by omega)
    have q2 : (o.length : Int) < (o.length : Int) + 1 := by omega
    have q3 : (0 : Int) ≤ (o.length : Int) := by omega
    by_cases h : x < d
    · rw [putL_lt h, show (o ++ [x] ++ [d]).length = o.length + 1 + 1 from by simp]
      clear hv hown
      go_enter Try.func74, Try.ntmps74
      go_wp2_with (at_builtin; refine app_int _ _ _ rfl rfl n₀ (o.length + 1) _ (o ++ [x]) rfl (HO.out.alloc _) d w.heap.size 1 rfl (by go_simp) (by omega) (by simp; omega) ?_; intro v' w1 hown' hgrow; obtain ⟨A', cap', rfl, _, _⟩ := own_form hown'; obtain ⟨b1, b2, b3, b5⟩ := put_done HV.out HO.out hn₀ hB hown' hgrow; have k1 := b1.cell; have k2 := b1.frozen; replace b2 := Lib.hid b2; replace b3 := Lib.hid b3; replace b5 := Lib.hid b5; clear b1 hown' hgrow)
      go_end0
      exact ⟨⟨_, rfl⟩, _, b2.out, b3.out, b5.out.1, b5.out.2⟩
    · rw [putL_ge (by omega), show (o ++ [x]).length = o.length + 1 from by simp]
      have f1 : decide (x < d) = false := decide_eq_false h
      clear hv hown
      go_enter Try.func74, Try.ntmps74
      go_wp2
      go_end0
      exact ⟨⟨_, rfl⟩, _, HV.out, HO.out, Below.refl _ _, Mid.refl _ _ _⟩
end Go.Proofs.Ytnhmibfgaoealaa
