/-
  The law SpanOrder of lumperlaw03 answers true.
-/
import Derived.Test.YtnhmibfgaoealaaWz
import Derived.DataShut
namespace Go.Proofs.Ytnhmibfgaoealaa
open Go.RowKit

theorem Rs.new_at (w : World) (l : List Sp.S) (t : TypeId) (g : Nat) (hg : g = w.heap.size) : Rs (w.alloc (.cells (flat encS l).toArray t)) (some ⟨g, 0, none⟩) l := by subst hg; exact Rs.new w l t

def Apart (u v : Value) : Prop := u.ownBlock = none ∨ u.ownBlock ≠ v.ownBlock
theorem Apart.symm {u v : Value} (h : Apart u v) : Apart v u := by
  rcases h with h | h
  · cases hv : v.ownBlock with
    | none => exact .inl hv
    | some g => exact .inr (by rw [hv, h]; simp)
  · exact .inr fun e => h e.symm

theorem app_two {ops : Array Oper} {rest : List Oper} {o : Oper} {a : Act} {Q : Exit → Act → World → Prop} (w0 w : World) (X : Ext w0 w) (s x : Operand) (hgd : Region.wanted o (yielded ops a.tmps) = true)
    (ho : o.op = .call { callee := .builtin .append, args := #[s, x], argTypes := #[40, 40] })
    (n n2 : Nat) (v u : Value) (l l2 m : List Sp.S) (hs : a.eval s = v) (hown : w.ownsRow w0.heap.size 42 2 v n (flat encS l)) (hown2 : w.ownsRow w0.heap.size 42 2 u n2 (flat encS l2)) (hap : Apart u v) (A : Addr) (c k : Nat)
    (hx : a.eval x = .slice (some A) k c) (hm : Rs w (some A) m) (hk : k = m.length) (hn : n + m.length ≤ 4000000000000)
    (h : ∀ A' cap' w', w'.ownsRow w0.heap.size 42 2 (.slice A' (n + k) cap') (n + k) (flat encS (l ++ m)) → w'.ownsRow w0.heap.size 42 2 u n2 (flat encS l2) → Apart u (.slice A' (n + k) cap') → Ext w0 w' → wpList Try.prog ops Q rest (a.put o.dst (.slice A' (n + k) cap')) w') : wpList Try.prog ops Q (o :: rest) a w := by
  subst hk
  obtain ⟨i0, hi, hz0, hz1, hz2⟩ := info_parts info_span
  have hbase : w0.heap.size ≤ w.heap.size := X.size
  have one : ∀ u ∈ flat encS m, u.oneCell' = true := by
    intro u hu
    simp only [flat, List.mem_flatMap] at hu
    obtain ⟨y, _, hy⟩ := hu
    simp [encS] at hy
    rcases hy with rfl | rfl <;> rfl
  refine wpList_step fun K hK => ?_
  rw [if_pos hgd]
  refine wp_append_at w s x 40 ho w0.heap.size 42 i0 (.agg #[.int .i64 0, .int .i64 0]) 2 16 Try.underlying40 hi hz0 hz1 hz2 rfl (by decide) v n (flat encS l) hs hown A m.length c (flat encS m) hx (flat_length encS_len m) ?_ one (by unfold maxLen; omega) (by omega) hbase ?_
  · intro j u hj
    have hjl : j < m.length * 2 := by rw [← flat_length encS_len]; exact (List.getElem?_eq_some_iff.1 hj).1
    have hd : j / 2 < m.length := by omega
    obtain ⟨b, off, hA, _, hc⟩ := hm (by rintro rfl; simp at hjl)
    cases hA
    have hf := flat_at encS_len m (j / 2) hd (j % 2) (by omega)
    rw [show j / 2 * 2 + j % 2 = j from by omega, hj] at hf
    have := hc (j / 2) hd (j % 2) u hf.symm
    rw [show off + j / 2 * 2 + j % 2 = off + j from by omega] at this
    by_cases h0 : j = 0
    · subst h0; simpa [Addr.add] using this
    · simpa [Addr.add, h0] using this
  · intro v' w' ho' hg hv'
    obtain ⟨A', cap', hv, _⟩ := own_form ho'
    subst hv
    have hX := Below.grown X hg hbase fun g hg' => (hown.lt g hg').1
    refine hK _ _ (h A' cap' w' (by rw [flat_append]; exact ho') (hown2.kept hg hap) ?_ hX)
    rcases hap with hap | hap
    · exact .inl hap
    · rcases hv' with hv' | hv'
      · exact .inr (by rw [hv']; exact hap)
      · refine .inr fun e => ?_
        rw [hv'] at e
        have := (hown2.lt _ e).2
        omega
theorem cNormN {w : World} {A : Option Addr} {l : List Sp.S} (h : Rs w A l) (hl : l.length ≤ 900000) (n : Nat) (hn : l.length = n) (cap : Nat) : Calls Try.prog 34 #[.slice A n cap] w (RetS w (Sp.norm l)) := by subst hn; exact cNorm h hl cap

def turn (a : List Sp.S) (f k : Nat) : List Sp.S := (List.range k).map fun i => a.getD ((i + f) % a.length) (0, 0)
theorem turn_succ {a : List Sp.S} {f k : Nat} {x : Sp.S} (h : a[(k + f) % a.length]? = some x) : turn a f (k + 1) = turn a f k ++ [x] := by
  simp [turn, List.range_succ, List.getD_eq_getElem?_getD, h]
theorem turn_len (a : List Sp.S) (f k : Nat) : (turn a f k).length = k := by simp [turn]
theorem turn_mem (a : List Sp.S) (f : Nat) (x : Sp.S) : x ∈ turn a f a.length ↔ x ∈ a := by
  simp only [turn, List.mem_map, List.mem_range]
  constructor
  · rintro ⟨i, hi, rfl⟩
    have hm : (i + f) % a.length < a.length := Nat.mod_lt _ (by omega)
    rw [List.getD_eq_getElem?_getD, List.getElem?_eq_getElem hm]
    exact List.getElem_mem hm
  · intro hx
    obtain ⟨j, hj, rfl⟩ := List.mem_iff_getElem.1 hx
    have hr : f % a.length < a.length := Nat.mod_lt _ (by omega)
    have hd := Nat.mod_add_div f a.length
    refine ⟨(j + (a.length - f % a.length)) % a.length, Nat.mod_lt _ (by omega), ?_⟩
    have e : ((j + (a.length - f % a.length)) % a.length + f) % a.length = j := by
      rw [Nat.mod_add_mod, show j + (a.length - f % a.length) + f = j + a.length * (1 + f / a.length) from by rw [Nat.mul_add, Nat.mul_one]; omega, Nat.add_mul_mod_self_left, Nat.mod_eq_of_lt hj]
    rw [e, List.getD_eq_getElem?_getD, List.getElem?_eq_getElem hj]
    rfl
theorem norm_turn (a : List Sp.S) (f : Nat) : Sp.norm (turn a f a.length) = Sp.norm a := Sp.norm_congr fun t _ => by
  rw [Bool.eq_iff_iff, Sp.hasB_iff, Sp.hasB_iff]
  constructor
  · rintro ⟨s, hs, h⟩; exact ⟨s, (turn_mem a f s).1 hs, h⟩
  · rintro ⟨s, hs, h⟩; exact ⟨s, (turn_mem a f s).2 hs, h⟩

def cut2 (c : Int) (s : Sp.S) : List Sp.S := [(s.1, min s.2 (max c s.1)), (max s.1 (min c s.2), s.2)]
def cuts (c : Int) (a : List Sp.S) : List Sp.S := a.flatMap (cut2 c)
theorem cuts_snoc (c : Int) (a : List Sp.S) (s : Sp.S) : cuts c (a ++ [s]) = cuts c a ++ cut2 c s := by simp [cuts]
theorem cuts_len (c : Int) (a : List Sp.S) : (cuts c a).length = a.length * 2 := by
  induction a with
  | nil => rfl
  | cons s r ih => simp [cuts, cut2] at *; omega
theorem cut2_has (c : Int) (s : Sp.S) (t : Int) : Sp.hasB (cut2 c s) t = Sp.inB s t := by
  rw [Bool.eq_iff_iff]
  simp only [cut2, Sp.hasB_cons, Sp.hasB_nil, Bool.or_false, Bool.or_eq_true, Sp.inB_iff]
  omega
theorem norm_cuts (c : Int) (a : List Sp.S) : Sp.norm (cuts c a) = Sp.norm a := Sp.norm_congr fun t _ => by
  induction a with
  | nil => rfl
  | cons s r ih =>
    rw [show cuts c (s :: r) = cut2 c s ++ cuts c r from rfl, Sp.hasB_append, ih, cut2_has, Sp.hasB_cons]

set_option maxRecDepth 100000 in
set_option maxHeartbeats 1000000 in
theorem order03 (a : List Sp.S) (Aa : Option Addr) (ca f : Nat) (c : Int) (w : World) (ha : Rs w Aa a) (hf : f ≤ 255) : Calls Try.prog 11 #[.slice Aa a.length ca, .int .u8 f, .int .i64 c] w (RetB w true) := by
  by_cases la : a.length ≤ 100
  · have hl : (a.length : Int) ≤ 100 := by omega
    go_enter Try.func11, Try.ntmps11
    go_wp2_with fail
    refine (awake03 _).mono ?_
    rintro e w1 ⟨rfl, x1⟩
    have ha1 := Lib.hid (ha.ext x1); clear ha
    go_wp2_with fail
    go_loopw [10, 8, 9] (fun i tv pv wr => ∃ (k : Nat) (AT AP : Option Addr) (cT cP : Nat), k ≤ a.length ∧ i = .int .i64 k ∧ tv = .slice AT k cT ∧ pv = .slice AP (k * 2) cP ∧ Hid (wr.ownsRow w1.heap.size 42 2 (.slice AT k cT) k (flat encS (turn a f k))) ∧ Hid (wr.ownsRow w1.heap.size 42 2 (.slice AP (k * 2) cP) (k * 2) (flat encS (cuts c (a.take k)))) ∧ Hid (Apart (.slice AP (k * 2) cP) (.slice AT k cT)) ∧ Hid (Ext w1 wr)) (fun i _ _ _ => a.length - (intOf i).toNat)
    case atStart => exact ⟨0, none, none, 0, 0, Nat.zero_le _, rfl, rfl, rfl, own_nil _ _, own_nil _ _, .inl rfl, Ext.refl _⟩
    case round =>
      obtain ⟨k, AT, AP, cT, cP, hk, rfl, rfl, rfl, HT, HP, HA, HX⟩ := hrel
      by_cases hlt : k < a.length
      · obtain ⟨j, hj, hjl⟩ : ∃ j, (k + f) % a.length = j ∧ j < a.length := ⟨_, rfl, Nat.mod_lt _ (by omega)⟩
        have hm : ((k : Int) + (f : Int)).tmod (a.length : Int) = (j : Int) := by rw [← hj]; exact (Int.ofNat_tmod (k + f) a.length).symm
        obtain ⟨b, off, p, q, rfl, hbB, hx, c0, c1⟩ := Rd.atS ha1.out (Ext.refl w1) hlt
        obtain ⟨b', off', p', q', hA, _, hy, d0, d1⟩ := Rd.atS ha1.out HX.out hjl
        obtain ⟨rfl, rfl⟩ : b = b' ∧ off = off' := by cases hA; exact ⟨rfl, rfl⟩
        have ht : Hid (turn a f (k + 1) = turn a f k ++ [(p', q')]) := turn_succ (by rw [hj]; exact hy.out)
        have hc : Hid (cuts c (a.take (k + 1)) = cuts c (a.take k) ++ cut2 c (p, q)) := by show _ = _; rw [take_snoc hx.out]; exact cuts_snoc _ _ _
        have q1 : (k : Int) < (a.length : Int) := by omega
        have q2 : (0 : Int) ≤ (j : Int) := by omega
        have q3 : (j : Int) < (a.length : Int) := by omega
        have q4 : ((a.length : Int) == 0) = false := beq_false_of_ne (by omega)
        replace hj := Lib.hid hj
        clear hA
        go_upto_region 10 with (at_builtin; refine app_two w1 _ (HX.out.alloc _) _ _ rfl rfl k (k * 2) _ _ _ _ [(p', q')] rfl (HT.out.alloc _) (HP.out.alloc _) HA.out ⟨wr.heap.size, 0, none⟩ 1 1 rfl (Rs.new _ [(p', q')] _) rfl (by simp; omega) ?_; intro A1 cap1 v1 own1 own1' ap1 z1)
        have e0 := (z1.cell (p := ⟨b, off + k * 2, none⟩) hbB).trans c0
        have e1 := (z1.cell (p := ⟨b, off + k * 2 + 1, none⟩) hbB).trans c1
        replace own1 := Lib.hid own1; replace own1' := Lib.hid own1'; replace ap1 := Lib.hid ap1; replace z1 := Lib.hid z1
        clear d0 d1 c0 c1 HT HP HA
        go_wp2_with (at_builtin; refine app_two w1 _ ((z1.out.alloc _).alloc _) _ _ rfl rfl (k * 2) (k + 1) _ _ _ _ (cut2 c (p, q)) rfl ((own1'.out.alloc _).alloc _) ((own1.out.alloc _).alloc _) ap1.out.symm ⟨v1.heap.size + 1, 0, none⟩ 2 2 rfl (Rs.new_at _ (cut2 c (p, q)) _ _ (by simp)) rfl (by simp [cut2]; omega) ?_; intro A2 cap2 v2 own2 own2' ap2 z2)
        have H1 : Hid (v2.ownsRow w1.heap.size 42 2 (.slice A1 (k + 1) cap1) (k + 1) (flat encS (turn a f (k + 1)))) := by show World.ownsRow _ _ _ _ _ _ _; rw [ht.out]; exact own2'
        have H2 : Hid (v2.ownsRow w1.heap.size 42 2 (.slice A2 ((k + 1) * 2) cap2) ((k + 1) * 2) (flat encS (cuts c (a.take (k + 1))))) := by show World.ownsRow _ _ _ _ _ _ _; rw [hc.out, show (k + 1) * 2 = k * 2 + 2 from by omega]; exact own2
        have H3 : Hid (Apart (.slice A2 ((k + 1) * 2) cap2) (.slice A1 (k + 1) cap1)) := by show Apart _ _; rw [show (k + 1) * 2 = k * 2 + 2 from by omega]; exact ap2.symm
        replace z2 := Lib.hid z2
        clear own2 own2' ap2
        go_roundw
        case rel => exact ⟨k + 1, A1, A2, cap1, cap2, by omega, by go_num, rfl, by rw [show (k + 1) * 2 = k * 2 + 2 from by omega], H1, H2, H3, z2⟩
        case measure => simp [intOf]; omega
      · obtain rfl : k = a.length := by omega
        have ha2 : Rs wr Aa a := ha1.out.ext HX.out
        have hT : Rs wr AT (turn a f a.length) := Rs.own (by rw [turn_len]; exact HT.out)
        have hP : Rs wr AP (cuts c a) := Rs.own (by rw [cuts_len]; have := HP.out; rw [List.take_length] at this; exact this)
        have X0 : Ext w wr := x1.trans HX.out
        have lT : (turn a f a.length).length ≤ 900000 := by rw [turn_len]; omega
        have lP : (cuts c a).length ≤ 900000 := by rw [cuts_len]; omega
        have lT2 : (Sp.norm (turn a f a.length)).length ≤ 900000 := Nat.le_trans (Sp.norm_length _) lT
        have lP2 : (Sp.norm (cuts c a)).length ≤ 900000 := Nat.le_trans (Sp.norm_length _) lP
        clear HT HP HA HX ha1
        go_wp2_with fail
        refine (cNorm ha2 (by omega) _).mono ?_
        rintro e w1 ⟨A1, cap1, rfl, r1, x1, _⟩
        have ha1 := ha2.ext x1; clear ha2
        have ht1 := hT.ext x1; clear hT
        have hp1 := hP.ext x1; clear hP
        have X1 := X0.trans x1
        go_wp2_with fail
        refine (cNormN ht1 lT _ (turn_len _ _ _) _).mono ?_
        rintro e w2 ⟨A2, cap2, rfl, r2, x2, _⟩
        have ha2 := ha1.ext x2; clear ha1
        have ht2 := ht1.ext x2; clear ht1
        have hp2 := hp1.ext x2; clear hp1
        have hn2 := r1.ext x2
        have X2 := X1.trans x2
        go_wp2_with fail
        refine (bEq (cSame r2 hn2 lT2 _ _) (decide_eq_true (norm_turn a f))).mono ?_
        rintro e w3 ⟨rfl, x3⟩
        have ha3 := ha2.ext x3; clear ha2
        have ht3 := ht2.ext x3; clear ht2
        have hp3 := hp2.ext x3; clear hp2
        have hn3 := hn2.ext x3; clear hn2
        have hu3 := r2.ext x3
        have X3 := X2.trans x3
        go_wp2_with fail
        refine (cNormN hp3 lP _ (cuts_len _ _) _).mono ?_
        rintro e w4 ⟨A4, cap4, rfl, r4, x4, _⟩
        have ha4 := ha3.ext x4; clear ha3
        have ht4 := ht3.ext x4; clear ht3
        have hp4 := hp3.ext x4; clear hp3
        have hn4 := hn3.ext x4; clear hn3
        have hu4 := hu3.ext x4; clear hu3
        have X4 := X3.trans x4
        go_wp2_with fail
        refine (bEq (cSame r4 hn4 lP2 _ _) (decide_eq_true (norm_cuts c a))).mono ?_
        rintro e w5 ⟨rfl, x5⟩
        have ha5 := ha4.ext x5; clear ha4
        have ht5 := ht4.ext x5; clear ht4
        have hp5 := hp4.ext x5; clear hp4
        have hn5 := hn4.ext x5; clear hn4
        have hu5 := hu4.ext x5; clear hu4
        have hv5 := r4.ext x5
        have X5 := X4.trans x5
        go_wp2
        go_ret
        exact ⟨rfl, X5⟩
  · have hl : ¬ (a.length : Int) ≤ 100 := by omega
    have hl2 : (100 : Int) < (a.length : Int) := by omega
    go_enter Try.func11, Try.ntmps11
    go_wp2_with fail
    refine (awake03 _).mono ?_
    rintro e w1 ⟨rfl, x1⟩
    go_wp2
    go_ret
    exact ⟨rfl, x1⟩
theorem order03i (a : List Sp.S) (Aa : Option Addr) (ca : Nat) (f c : Int) (w : World) (ha : Rs w Aa a) (hf : (Lit.int .u8 f).wf = true) : Calls Try.prog 11 #[.slice Aa a.length ca, .int .u8 f, .int .i64 c] w (RetB w true) := by
  have h := (Lit.wf_int_iff .u8 f).1 hf
  have h0 : 0 ≤ f := h.1
  have h1 : f ≤ 255 := h.2
  obtain ⟨g, rfl⟩ : ∃ g : Nat, f = g := ⟨f.toNat, by omega⟩
  exact order03 a Aa ca g c w ha (by omega)
end Go.Proofs.Ytnhmibfgaoealaa
