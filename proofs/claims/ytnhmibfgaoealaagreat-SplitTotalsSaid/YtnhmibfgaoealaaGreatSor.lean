import Derived.Test.YtnhmibfgaoealaaGreatMb
import Derived.Test.YtnhmibfgaoealaaGreatSortK
import Derived.Test.YtnhmibfgaoealaaGreatNorm
import Derived.Test.YtnhmibfgaoealaaGreatLay
namespace Go.Proofs.YtnhmibfgaoealaaGreat
open Go.RowKit Go.Sort Go.Shelf Go.Proofs

set_option maxHeartbeats 400000 in
theorem ins_none (f : Value) (w : World) : Calls Tryz.prog 129 #[.slice none 0 0, .int .i64 0, .int .i64 0, f] w fun e w' => e = .returned (.tuple #[]) ∧ w = w' := by
  go_enter Tryz.func129, Tryz.ntmps129
  go_wp2
  refine wp_loop_rounds 1 ?_
  rw [rounds_succ]
  go_wp2
  go_end0
  exact ⟨rfl, rfl⟩

set_option maxHeartbeats 400000 in
theorem pdq_none (f : Value) (L : Int) (w : World) : Calls Tryz.prog 99 #[.slice none 0 0, .int .i64 0, .int .i64 0, .int .i64 L, f] w fun e w' => e = .returned (.tuple #[]) ∧ w = w' := by
  go_enter Tryz.func99, Tryz.ntmps99
  go_wp2
  refine wp_loop_rounds 1 ?_
  rw [rounds_succ]
  go_wp2_with (go_at_call 129; refine (ins_none _ _).mono ?_; rintro e w' ⟨rfl, rfl⟩)
  exact bodyPost_ret (results_none rfl _ _ _) rfl ⟨rfl, rfl⟩

set_option maxRecDepth 100000 in
set_option maxHeartbeats 1000000 in
theorem sort_none (f : Value) (w : World) : Calls Tryz.prog 60 #[.slice none 0 0, f] w fun e w' => e = .returned (.tuple #[]) ∧ w = w' := by
  go_enter Tryz.func60, Tryz.ntmps60
  go_wp2_with (first | (go_at_call 99; refine (pdq_none _ _ _).mono ?_; rintro e w' ⟨rfl, rfl⟩) | (go_in))
  go_end0
  exact ⟨rfl, rfl⟩
set_option maxHeartbeats 400000 in
theorem normClosure (x y : Int × Int) (W : World) : Calls Tryz.prog 61 #[.agg #[.int .i64 x.1, .int .i64 x.2], .agg #[.int .i64 y.1, .int .i64 y.2]] W fun e w' => e = .returned (.int .i64 (cmpI x.1 y.1)) ∧ ∃ q os', w' = grow (W.drewN q) os' := by
  have hcon := fun W' => compare_any x.1 y.1 W'
  generalize cmpI x.1 y.1 = r at hcon ⊢
  go_enter Tryz.func61, Tryz.ntmps61
  go_wp2_with (go_at_call 50; refine (hcon _).mono ?_; rintro e w' ⟨rfl, rfl⟩)
  go_ret
  exact ⟨rfl, 0, _, by rw [alloc_eq_grow, alloc_eq_grow, grow_grow]; rfl⟩

theorem cmpLays (blk off size : Nat) (w : World) : CmpLays Tryz.prog 61 #[] encS 2 (fun x y => cmpI x.1 y.1) blk off size w :=
  fun _ _ _ _ x y => normClosure x y _

theorem ltS (x y : Int × Int) : ltOf (fun x y : Int × Int => cmpI x.1 y.1) x y = decide (x.1 < y.1) := by
  unfold ltOf cmpI
  by_cases h1 : x.1 < y.1
  · simp [h1]
  · by_cases h2 : y.1 < x.1 <;> simp [h1, h2]

theorem swoS : SWO (ltOf fun x y : Int × Int => cmpI x.1 y.1) where
  irrefl x := by rw [ltS]; simp
  trans x y z h1 h2 := by rw [ltS] at *; simp at *; omega
  ntrans x y z h1 h2 := by rw [ltS] at *; simp at *; omega

theorem sort_any : SortSaid := by
  intro l A cap base w hown hl
  rcases hown.2 with ⟨h0, hn⟩ | ⟨g, cap', cur, hv, hbase, hb, h1, h2, h3, h4⟩
  · injection h0 with hA hl0 hc
    subst hA
    have hl1 : l = [] := List.eq_nil_of_length_eq_zero hn
    subst hl1
    subst hc
    refine Calls.mono (sort_none _ w) ?_
    rintro e w' ⟨rfl, rfl⟩
    exact ⟨rfl, [], .refl _, .nil, hown, Below.refl _ _⟩
  · injection hv with hA _ hc
    subst hA; subst hc
    have eg : ∀ args w, (callFunc 61 args).run Tryz.prog w = .ok (.enter 61 args) w := enters_of Tryz.func61 (by kernel_rfl) rfl
    have hcon := AnyQ.slices_SortFunc Tryz.sortSpan 2 Tryz.isAgg49 Tryz.sizeOf49 encS (fun _ => rfl) (fun x v hv => by simp [encS] at hv; rcases hv with rfl | rfl <;> rfl) (fun x y => cmpI x.1 y.1) swoS 61 #[] g 0 cap l.toArray w eg (cmpLays _ _ _ _)
      (holdsK_of_block encS_len hb h4) (Array.getElem?_eq_some_iff.1 hb).1 (by simp; omega)
    have hsz : l.toArray.size = l.length := by simp
    rw [hsz] at hcon
    refine Calls.mono hcon ?_
    rintro e w' ⟨rfl, d', n, os, hp, hs, rfl⟩
    have hps : d'.size = l.length := by rw [hp.1, hsz]
    have hperm : d'.toList.Perm l := by
      have := hp.2.2
      rw [← hps] at this
      have e1 : (d'.extract 0 d'.size).toList = d'.toList := by simp
      have e2 : (l.toArray.extract 0 d'.size).toList = l := by rw [hps]; simp
      rwa [e1, e2] at this
    refine ⟨rfl, d'.toList, hperm, ?_, ?_, Below.grown (Below.refl _ _) (grownBy_sortedK _) ?_ ?_⟩
    · refine List.pairwise_iff_getElem.2 fun i j hi hj hij => ?_
      have := hs i j (Nat.zero_le _) hij (by rw [← hps]; simpa using hj)
      rw [ltS, getElem!_pos d' j (by simpa using hj), getElem!_pos d' i (by simpa using hi)] at this
      simp at this ⊢; exact this
    · have := ownsRow_sortedK (enc := encS) (w := w) (n := n) (os := os) encS_len (l := l) (m := d'.toList) (by rw [← hps]; simp) hbase hb h1 h2 h3
      rw [Array.toArray_toList] at this; exact this
    · exact Nat.le_trans hbase (Nat.le_of_lt (Array.getElem?_eq_some_iff.1 hb).1)
    · intro k hk; cases hk; exact hbase

theorem norm_all (l : List Sp.S) (A : Option Addr) (cap : Nat) (w : World) (h : Rd encS 2 w w.heap.size A l) (hl : l.length ≤ 1000000000000) :
    Calls Tryz.prog 23 #[.slice A l.length cap] w fun e w' => ∃ A' cap', e = .returned (.slice A' (Sp.norm l).length cap') ∧
      w'.ownsRow w.heap.size 49 2 (.slice A' (Sp.norm l).length cap') (Sp.norm l).length (flat encS (Sp.norm l)) ∧ Below w.heap.size w w' :=
  norm_any sort_any l A cap w h hl
end Go.Proofs.YtnhmibfgaoealaaGreat
