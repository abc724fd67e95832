/-
  lumperref11: the parts of days and weeks, and the days that have some.
  Three rows of the call's own, whose slices lie in one struct.
  lumperref16.cut.
-/
import Derived.Test.YtnhmibfgaoealaaGreatEy
import Derived.Test.YtnhmibfgaoealaaGreatTw
import Derived.Test.YtnhmibfgaoealaaGreatDe
namespace Go.Proofs.YtnhmibfgaoealaaGreat
open Go.RowKit
set_option linter.unusedVariables false
set_option linter.unusedSimpArgs false


theorem rOfDay_none (l : List Sp.S) {n : Int} (h : 370 < n) : partS l n 86400 = [] := by
  unfold partS
  split
  · rfl
  · refine (Sp.and_plain _ _).uniq Sp.plain_nil fun t => ?_
    rw [Sp.and_has, inB_one, Sp.hasB_nil]
    cases hk : Sp.okT t
    · simp
    · have := Sp.okT_iff.1 hk
      simp only [Sp.MT] at this
      rw [show decide (n * 86400 ≤ t) = false from decide_eq_false (by omega)]
      simp
set_option maxRecDepth 100000 in
set_option maxHeartbeats 1000000 in
theorem rOfDay {w : World} {A : Option Addr} {l : List Sp.S} (h : Rs w A l) (hl : l.length ≤ 900000) (cap : Nat) (n : Int) : Calls Tryz.prog 41 #[.slice A l.length cap, .int .i64 n] w (RetS w (partS l n 86400)) := by
  replace h := Lib.hid h
  by_cases h1 : n < 0
  · have e : partS l n 86400 = [] := if_pos (.inl h1)
    have f1 : decide (n < 0) = true := decide_eq_true h1
    rw [e]
    clear e h1
    go_enter Tryz.func41, Tryz.ntmps41
    go_wp2
    go_ret
    exact ⟨none, 0, rfl, Rs.nil, Ext.refl _, own_nil _ _⟩
  · have f1 : decide (n < 0) = false := decide_eq_false h1
    by_cases h2 : 370 < n
    · have f2 : decide (370 < n) = true := decide_eq_true h2
      rw [rOfDay_none l h2]
      clear h1 h2
      go_enter Tryz.func41, Tryz.ntmps41
      go_wp2
      go_ret
      exact ⟨none, 0, rfl, Rs.nil, Ext.refl _, own_nil _ _⟩
    · have f2 : decide (370 < n) = false := decide_eq_false h2
      have e : partS l n 86400 = Sp.and_ l [(n * 86400, (n + 1) * 86400)] := if_neg (by omega)
      have q1 : IntKind.i64.wrap (86400 * n) = n * 86400 := by rw [IntWalk.i64_in _ (by omega)]; omega
      have q2 : IntKind.i64.wrap (n * 86400 + 86400) = (n + 1) * 86400 := by rw [IntWalk.i64_in _ (by omega)]; omega
      obtain ⟨u, hu⟩ : ∃ u, n * 86400 = u := ⟨_, rfl⟩
      obtain ⟨v, hv⟩ : ∃ u, (n + 1) * 86400 = u := ⟨_, rfl⟩
      rw [hu] at e q1 q2
      rw [hv] at e q2
      rw [e]
      clear e h1 h2 hu hv
      go_enter Tryz.func41, Tryz.ntmps41
      go_wp2_with fail
      refine (rAnd (h.out.alloc _) (Rs.new_g _ [(u, v)] _ _ rfl) hl (by simp) _ _).mono ?_
      rintro e w1 ⟨A1, cap1, rfl, r1, x1, o1⟩
      replace r1 := Lib.hid r1; replace o1 := Lib.hid o1
      go_wp2
      go_ret
      exact ⟨A1, cap1, rfl, r1.out, ((Ext.refl w).alloc _).trans x1, own_base o1.out (by simp)⟩

theorem rOfWeek_none (l : List Sp.S) {n : Int} (h : 52 < n) : partS l n 604800 = [] := by
  unfold partS
  split
  · rfl
  · refine (Sp.and_plain _ _).uniq Sp.plain_nil fun t => ?_
    rw [Sp.and_has, inB_one, Sp.hasB_nil]
    cases hk : Sp.okT t
    · simp
    · have := Sp.okT_iff.1 hk
      simp only [Sp.MT] at this
      rw [show decide (n * 604800 ≤ t) = false from decide_eq_false (by omega)]
      simp
set_option maxRecDepth 100000 in
set_option maxHeartbeats 1000000 in
theorem rOfWeek {w : World} {A : Option Addr} {l : List Sp.S} (h : Rs w A l) (hl : l.length ≤ 900000) (cap : Nat) (n : Int) : Calls Tryz.prog 53 #[.slice A l.length cap, .int .i64 n] w (RetS w (partS l n 604800)) := by
  replace h := Lib.hid h
  by_cases h1 : n < 0
  · have e : partS l n 604800 = [] := if_pos (.inl h1)
    have f1 : decide (n < 0) = true := decide_eq_true h1
    rw [e]
    clear e h1
    go_enter Tryz.func53, Tryz.ntmps53
    go_wp2
    go_ret
    exact ⟨none, 0, rfl, Rs.nil, Ext.refl _, own_nil _ _⟩
  · have f1 : decide (n < 0) = false := decide_eq_false h1
    by_cases h2 : 52 < n
    · have f2 : decide (52 < n) = true := decide_eq_true h2
      rw [rOfWeek_none l h2]
      clear h1 h2
      go_enter Tryz.func53, Tryz.ntmps53
      go_wp2
      go_ret
      exact ⟨none, 0, rfl, Rs.nil, Ext.refl _, own_nil _ _⟩
    · have f2 : decide (52 < n) = false := decide_eq_false h2
      have e : partS l n 604800 = Sp.and_ l [(n * 604800, (n + 1) * 604800)] := if_neg (by omega)
      have q1 : IntKind.i64.wrap (604800 * n) = n * 604800 := by rw [IntWalk.i64_in _ (by omega)]; omega
      have q2 : IntKind.i64.wrap (n * 604800 + 604800) = (n + 1) * 604800 := by rw [IntWalk.i64_in _ (by omega)]; omega
      obtain ⟨u, hu⟩ : ∃ u, n * 604800 = u := ⟨_, rfl⟩
      obtain ⟨v, hv⟩ : ∃ u, (n + 1) * 604800 = u := ⟨_, rfl⟩
      rw [hu] at e q1 q2
      rw [hv] at e q2
      rw [e]
      clear e h1 h2 hu hv
      go_enter Tryz.func53, Tryz.ntmps53
      go_wp2_with fail
      refine (rAnd (h.out.alloc _) (Rs.new_g _ [(u, v)] _ _ rfl) hl (by simp) _ _).mono ?_
      rintro e w1 ⟨A1, cap1, rfl, r1, x1, o1⟩
      replace r1 := Lib.hid r1; replace o1 := Lib.hid o1
      go_wp2
      go_ret
      exact ⟨A1, cap1, rfl, r1.out, ((Ext.refl w).alloc _).trans x1, own_base o1.out (by simp)⟩

theorem rTime (t : Int) (w : World) : Calls Tryz.prog 104 #[.int .i64 t] w (RetI w (min (max t 0) 32054400)) := by
  go_enter Tryz.func104, Tryz.ntmps104
  go_wp2
  go_ret
  exact ⟨rfl, Ext.refl _⟩
theorem rDay (t : Int) (w : World) : Calls Tryz.prog 74 #[.int .i64 t] w (RetI w (dayOf t)) := by
  have k := fun w => rTime t w
  obtain ⟨z, hz⟩ : ∃ z, min (max t 0) 32054400 = z := ⟨_, rfl⟩
  have e : (min z 32054399).tdiv 86400 = dayOf t := by
    rw [Int.tdiv_eq_ediv_of_nonneg (by omega)]
    unfold dayOf
    congr 1
    omega
  have q : IntKind.i64.wrap (dayOf t) = dayOf t := IntWalk.i64_in _ (by have := dayOf_bd t; omega)
  rw [hz] at k
  obtain ⟨d, hd⟩ : ∃ d, dayOf t = d := ⟨_, rfl⟩
  rw [hd] at e q ⊢
  replace k := Lib.hid k
  clear hz hd
  go_enter Tryz.func74, Tryz.ntmps74
  go_wp2_with fail
  refine (k.out _).mono ?_
  rintro _ w1 ⟨rfl, x1⟩
  go_wp2
  go_ret
  exact ⟨rfl, x1⟩
theorem putL_eqN {o : List Int} {x : Int} : putL (o ++ [x]) x = o ++ [x] := putL_ge (Int.le_refl _)

set_option maxRecDepth 100000 in
set_option maxHeartbeats 4000000 in
theorem rDays {w : World} {A : Option Addr} {l : List Sp.S} (h : Rs w A l) (hl : l.length ≤ 900000) (c : Nat) :
    Calls Tryz.prog 33 #[.slice A l.length c] w fun e w' => ∃ A' cap', e = .returned (.slice A' (daysL (Sp.norm l)).length cap') ∧ Rn w' A' (daysL (Sp.norm l)) ∧ Ext w w' := by
  have kN := rNorm h hl c
  have hP := Sp.norm_plain l
  have hNl := Nat.le_trans (Sp.norm_length l) hl
  obtain ⟨N, hN⟩ : ∃ N, Sp.norm l = N := ⟨_, rfl⟩
  rw [hN] at kN hP hNl ⊢
  replace kN := Lib.hid kN; replace hP := Lib.hid hP
  clear hN h hl
  go_enter Tryz.func33, Tryz.ntmps33
  go_wp2_with fail
  refine kN.out.mono ?_
  rintro _ w1 ⟨A1, cap1, rfl, r1, x1, _⟩
  have X1 := Lib.hid x1
  replace r1 := Lib.hid r1
  clear x1 kN
  go_wp2_with fail
  go_loopw [4, 5] (fun ov i wr => ∃ (k : Nat) (o : List Int) (n : Nat) (A2 : Option Addr) (c2 : Nat), k ≤ N.length ∧ i = .int .i64 k ∧ ov = .slice A2 n c2 ∧ Hid (n = o.length) ∧ Hid (o = daysL (N.take k)) ∧ Hid (∀ x ∈ o, ∀ y, N[k]? = some y → x ≤ dayOf y.1) ∧ n ≤ 400 * k ∧ Hid (wr.ownsRow w1.heap.size 3 1 (.slice A2 n c2) n (flat encN o)) ∧ Hid (Ext w1 wr)) (fun _ i _ => N.length - (intOf i).toNat)
  case atStart => exact ⟨0, [], 0, none, 0, Nat.zero_le _, rfl, rfl, rfl, (rfl : _ = _), (show ∀ x ∈ ([] : List Int), _ from fun x hx => by cases hx), by omega, World.ownsRow_nil _ _ _ _, Ext.refl _⟩
  case round =>
    obtain ⟨k, o, n, A2, c2, hk, rfl, rfl, hn, ho, HB, hb, HO, HX⟩ := hrel
    by_cases hlt : k < N.length
    · obtain ⟨b, off, p, q, rfl, hbB, hx, d0, d1⟩ := Rd.at2 r1.out HX.out hlt
      have q3 : (k : Int) < (N.length : Int) := by omega
      have q4 : (0 : Int) ≤ (k : Int) := by omega
      obtain ⟨hy, p0, pq, q1⟩ := plain_next hP.out hx.out (by omega)
      have hnx : Hid (∀ y, N[k + 1]? = some y → q < y.1) := fun y hy3 => (plain_next hP.out hy3 (by omega)).1 (p, q) (by rw [take_snoc hx.out]; simp)
      have HB0 : Hid (∀ x ∈ o, x ≤ dayOf p) := fun x hx2 => HB.out x hx2 _ hx.out
      obtain ⟨dp, hdp⟩ : ∃ d, dayOf p = d := ⟨_, rfl⟩
      obtain ⟨dq, hdq⟩ : ∃ d, dayOf (q - 1) = d := ⟨_, rfl⟩
      have dp0 := dayOf_bd p
      have dq0 := dayOf_bd (q - 1)
      have dpq : dp ≤ dq := by rw [← hdp, ← hdq]; unfold dayOf; omega
      obtain ⟨sp, hsp⟩ : ∃ s, spanN (p, q) = s := ⟨_, rfl⟩
      have sp1 : (sp : Int) = dq - dp + 1 := by rw [← hsp]; unfold spanN; show ((dayOf (q - 1) - dayOf p + 1).toNat : Int) = _; rw [hdp, hdq]; omega
      have kP := fun w => rDay p w
      have kQ := fun w => rDay (q - 1) w
      have hO2 : Hid (daysL (N.take (k + 1)) = putsN (daysL (N.take k)) dp sp) := by show _ = _; rw [take_snoc hx.out, daysL_snoc, hsp]; show putsN _ (dayOf p) _ = _; rw [hdp]
      have hmo : Hid (∀ y, q < y → dq ≤ dayOf y) := fun y hy => by rw [← hdq]; unfold dayOf; omega
      have qw : IntKind.i64.wrap (q - 1) = q - 1 := IntWalk.i64_in _ (by omega)
      rw [hdp] at kP dp0 HB0
      rw [hdq] at kQ dq0
      have ho0 : Hid (o = putsN (daysL (N.take k)) dp 0) := by show _ = _; rw [ho.out]; simp [putsN]
      replace kP := Lib.hid kP; replace kQ := Lib.hid kQ
      clear HB hy hdp hdq hsp ho
      go_wp2_with fail
      refine (kP.out _).mono ?_
      rintro _ w2 ⟨rfl, x2⟩
      have HX2 := Lib.hid (HX.out.trans x2); have HO2 := Lib.hid (own_below HO.out x2)
      clear x2 HX HO kP d0 d1
      go_wp2_with fail
      go_loopw [4, 6] (fun ov dv wx => ∃ (j : Nat) (o : List Int) (n : Nat) (A2 : Option Addr) (c2 : Nat), j ≤ sp ∧ dv = .int .i64 (dp + j) ∧ ov = .slice A2 n c2 ∧ Hid (n = o.length) ∧ Hid (o = putsN (daysL (N.take k)) dp j) ∧ Hid (∀ x ∈ o, x ≤ dp ∨ x + 1 ≤ dp + j) ∧ n ≤ 400 * k + j ∧ Hid (wx.ownsRow w1.heap.size 3 1 (.slice A2 n c2) n (flat encN o)) ∧ Hid (Ext w1 wx)) (fun _ dv _ => (dp + sp - intOf dv).toNat)
      case atStart => exact ⟨0, o, n, A2, c2, by omega, by simp, rfl, hn, ho0, (show ∀ x ∈ o, _ from fun x hx2 => .inl (HB0.out x hx2)), by omega, HO2, HX2⟩
      case round =>
        obtain ⟨j, o, n, A2, c2, hj, rfl, rfl, hn, ho, HB, hb, HO, HX⟩ := hrel
        obtain ⟨b', off', p', q', hA', _, hx', d0, d1⟩ := Rd.at2 r1.out HX.out hlt
        cases hA'
        have hpq : (p', q') = (p, q) := Option.some.inj (hx'.out.symm.trans hx.out)
        cases hpq
        go_wp2_with fail
        refine (kQ.out _).mono ?_
        rintro _ w3 ⟨rfl, x3⟩
        have HX3 := Lib.hid (HX.out.trans x3); have HO3 := Lib.hid (own_below HO.out x3)
        clear x3 HX HO d0 d1 hx'
        by_cases hlt2 : j < sp
        · have f1 : decide (dp + (j : Int) ≤ dq) = true := decide_eq_true (by omega)
          have q5 : IntKind.i64.wrap (dp + (j : Int) + 1) = dp + (j : Int) + 1 := IntWalk.i64_in _ (by omega)
          have hs : Hid (putsN (daysL (N.take k)) dp (j + 1) = putL o (dp + j)) := by show _ = _; rw [putsN_succ, ← ho.out]
          have hle : ∀ x ∈ o, x ≤ dp + j := fun x hx2 => by rcases HB.out x hx2 with h | h <;> omega
          rcases List.eq_nil_or_concat o with rfl | ⟨o', x, hox⟩
          · have hn0 : n = 0 := hn.out
            subst hn0
            have hs2 : Hid ([] ++ [dp + (j : Int)] = putsN (daysL (N.take k)) dp (j + 1)) := by show _ = _; rw [hs.out, putL_nil]
            have hn3 : Hid (0 + 1 = ([] ++ [dp + (j : Int)] : List Int).length) := (rfl : _ = _)
            have HB2 : Hid (∀ x ∈ ([] ++ [dp + (j : Int)] : List Int), x ≤ dp ∨ x + 1 ≤ dp + ((j + 1 : Nat) : Int)) := fun x hx2 => by simp at hx2; omega
            clear HB hs ho
            go_wp2_with (at_builtin; refine app_int _ _ _ rfl rfl w1.heap.size 0 _ [] rfl (HO3.out.alloc _) (dp + j) w3.heap.size 1 rfl (by go_simp) (by omega) (by have := HX3.out.size; simp; omega) ?_; intro v' w4 hown' hgrow; obtain ⟨A', cap', rfl, _, _⟩ := own_form hown'; have HX4 := Lib.hid ((HX3.out.alloc (.cells #[.int .i64 (dp + j)] 3)).grown hgrow (by have := HX3.out.size; simp; omega) fun g hg => (HO3.out.lt g hg).1); replace hown' := Lib.hid hown')
            go_roundw
            case rel => exact ⟨j + 1, [] ++ [dp + (j : Int)], 0 + 1, A', cap', by omega, by go_num, rfl, hn3, hs2, HB2, by omega, hown', HX4⟩
            case measure => simp [intOf]; omega
          · rw [List.concat_eq_append] at hox
            subst hox
            have hn1 : n = o'.length + 1 := by have := hn.out; simpa using this
            subst hn1
            obtain ⟨g, rfl, hg⟩ := own_lastN HO3.out rfl
            have f0 : ((o'.length : Int) + 1 == 0) = false := beq_false_of_ne (by omega)
            have e1 : IntKind.i64.wrap (o'.length : Int) = o'.length := IntWalk.i64_in _ (by omega)
            have e2 : (o'.length : Int) < (o'.length : Int) + 1 := by omega
            have e3 : (0 : Int) ≤ (o'.length : Int) := by omega
            have hxd : x ≤ dp + j := hle x (by simp)
            by_cases hxe : x = dp + j
            · subst hxe
              have f5 : (dp + (j : Int) != dp + (j : Int)) = false := by simp
              have hs2 : Hid (o' ++ [dp + (j : Int)] = putsN (daysL (N.take k)) dp (j + 1)) := by show _ = _; rw [hs.out, putL_eqN]
              have HB2 : Hid (∀ x ∈ o' ++ [dp + (j : Int)], x ≤ dp ∨ x + 1 ≤ dp + ((j + 1 : Nat) : Int)) := fun x hx2 => by rcases HB.out x hx2 with h | h <;> omega
              clear HB hs ho hle
              go_wp2
              go_roundw
              case rel => exact ⟨j + 1, _, o'.length + 1, _, c2, by omega, by go_num, rfl, hn, hs2, HB2, by omega, HO3, HX3⟩
              case measure => simp [intOf]; omega
            · have f5 : (x != dp + (j : Int)) = true := by simp [hxe]
              have hs2 : Hid (o' ++ [x] ++ [dp + (j : Int)] = putsN (daysL (N.take k)) dp (j + 1)) := by show _ = _; rw [hs.out, putL_lt (by omega)]
              have HB2 : Hid (∀ y ∈ o' ++ [x] ++ [dp + (j : Int)], y ≤ dp ∨ y + 1 ≤ dp + ((j + 1 : Nat) : Int)) := fun y hy2 => by
                rcases List.mem_append.1 hy2 with h | h
                · rcases HB.out y h with h | h <;> omega
                · simp at h; omega
              have hn3 : Hid (o'.length + 1 + 1 = (o' ++ [x] ++ [dp + (j : Int)]).length) := by show _ = _; simp
              clear HB hs ho hle hxe hxd
              go_wp2_with (at_builtin; refine app_int _ _ _ rfl rfl w1.heap.size (o'.length + 1) _ (o' ++ [x]) rfl (HO3.out.alloc _) (dp + j) w3.heap.size 1 rfl (by go_simp) (by omega) (by have := HX3.out.size; simp; omega) ?_; intro v' w4 hown' hgrow; obtain ⟨A', cap', rfl, _, _⟩ := own_form hown'; have HX4 := Lib.hid ((HX3.out.alloc (.cells #[.int .i64 (dp + j)] 3)).grown hgrow (by have := HX3.out.size; simp; omega) fun g hg => (HO3.out.lt g hg).1); replace hown' := Lib.hid hown')
              go_roundw
              case rel => exact ⟨j + 1, _, o'.length + 1 + 1, A', cap', by omega, by go_num, rfl, hn3, hs2, HB2, by omega, hown', HX4⟩
              case measure => simp [intOf]; omega
        · obtain rfl : j = sp := by omega
          have f1 : decide (dp + (j : Int) ≤ dq) = false := decide_eq_false (by omega)
          have ho2 : Hid (o = daysL (N.take (k + 1))) := by show _ = _; rw [ho.out, hO2.out]
          have HB2 : Hid (∀ x ∈ o, ∀ y, N[k + 1]? = some y → x ≤ dayOf y.1) := fun x hx2 y hy => by
            have h1 := hmo.out _ (hnx.out y hy)
            rcases HB.out x hx2 with h | h <;> omega
          clear HB ho
          go_wp2
          go_roundw
          case rel => exact ⟨k + 1, o, n, A2, c2, by omega, by go_num, rfl, hn, ho2, HB2, by omega, HO3, HX3⟩
          case measure => simp [intOf]; omega
    · obtain rfl : k = N.length := by omega
      rw [List.take_length] at ho
      have hn2 := hn.out
      subst hn2
      have hr := Lib.hid (Rn.own HO.out)
      have XF := X1.out.trans HX.out
      have ho2 := ho.out
      subst ho2
      clear HO HB HX
      go_wp2
      go_ret
      first
        | exact ⟨A2, c2, rfl, hr.out, XF⟩
        | exact ⟨A2, ⟨c2, rfl⟩, hr.out, XF⟩
end Go.Proofs.YtnhmibfgaoealaaGreat
namespace Go.Proofs.YtnhmibfgaoealaaGreat
open Go.RowKit
set_option linter.unusedVariables false
set_option linter.unusedSimpArgs false

theorem app_tri {ops : Array Oper} {rest : List Oper} {o : Oper} {a : Act} {Q : Exit → Act → World → Prop} (n₀ : Nat) (w : World) (hb : n₀ ≤ w.heap.size) (s x : Operand) (hgd : Region.wanted o (yielded ops a.tmps) = true)
    (ho : o.op = .call { callee := .builtin .append, args := #[s, x], argTypes := #[34, 34] })
    (n : Nat) (v : Value) (l m : List Sp.S) (hs : a.eval s = v) (hown : w.ownsRow n₀ 49 2 v n (flat encS l)) (A : Option Addr) (c k : Nat)
    (hx : a.eval x = .slice A k c) (hm : Rs w A m) (hk : k = m.length) (hn : n + m.length ≤ 4000000000000)
    (h : ∀ A' cap' w', w'.ownsRow n₀ 49 2 (.slice A' (n + k) cap') (n + k) (flat encS (l ++ m)) → w.grownBy w' v.ownBlock → ((Value.slice A' (n + k) cap').ownBlock = v.ownBlock ∨ (Value.slice A' (n + k) cap').ownBlock = some w.heap.size) → wpList Tryz.prog ops Q rest (a.put o.dst (.slice A' (n + k) cap')) w') : wpList Tryz.prog ops Q (o :: rest) a w := by
  rcases A with _ | A
  · have hm0 : m = [] := by
      cases m with
      | nil => rfl
      | cons y r => obtain ⟨b, off, h0, _⟩ := hm (by simp); cases h0
    subst hm0
    subst hk
    obtain ⟨i0, hi, hz0, hz1, hz2⟩ := info_parts info_span
    refine wpList_step fun K hK => ?_
    rw [if_pos hgd]
    have hrun := run_append_none (P := Tryz.prog) w n₀ 34 o.type 49 i0 2 Tryz.underlying34 hi v n (flat encS l) hown c
    unfold Oper.wp execOp
    simp only [ho, resolve, invoke, builtin, Sem.run_bind, Sem.run_pure, Result.andThen_ok, List.map_toArray, List.map_cons, List.map_nil, hs, hx, List.length_nil, hrun]
    obtain ⟨A', cap', hv, _⟩ := own_form hown
    subst hv
    have := h A' cap' w (by rw [List.append_nil]; exact hown) (World.grownBy.refl w _) (.inl rfl)
    exact hK _ _ this
  · subst hk
    obtain ⟨i0, hi, hz0, hz1, hz2⟩ := info_parts info_span
    have one : ∀ u ∈ flat encS m, u.oneCell' = true := by
      intro u hu
      simp only [flat, List.mem_flatMap] at hu
      obtain ⟨y, _, hy⟩ := hu
      simp [encS] at hy
      rcases hy with rfl | rfl <;> rfl
    refine wpList_step fun K hK => ?_
    rw [if_pos hgd]
    refine wp_append_at w s x 34 ho n₀ 49 i0 (.agg #[.int .i64 0, .int .i64 0]) 2 16 Tryz.underlying34 hi hz0 hz1 hz2 rfl (by decide) v n (flat encS l) hs hown A m.length c (flat encS m) hx (flat_length encS_len m) ?_ one (by unfold maxLen; omega) (by omega) hb ?_
    · intro j u hj
      have hjl : j < m.length * 2 := by rw [← flat_length encS_len]; exact (List.getElem?_eq_some_iff.1 hj).1
      have hd : j / 2 < m.length := by omega
      obtain ⟨b, off, hA, _, hc⟩ := hm (by rintro rfl; simp at hjl)
      cases hA
      have hf := flat_at encS_len m (j / 2) hd (j % 2) (by omega)
      rw [show j / 2 * 2 + j % 2 = j from by omega, hj] at hf
      have := hc (j / 2) hd (j % 2) u hf.symm
      rw [show off + j / 2 * 2 + j % 2 = off + j from by omega] at this
      by_cases h0 : j = 0
      · subst h0; simpa [Addr.add] using this
      · simpa [Addr.add, h0] using this
    · intro v' w' ho' hg hv'
      obtain ⟨A', cap', hv, _⟩ := own_form ho'
      subst hv
      exact hK _ _ (h A' cap' w' (by rw [flat_append]; exact ho') hg hv')

/-- The struct in block B holds three slices; each owns its row, and no two share one. -/
structure Tri (n₀ B : Nat) (l1 l2 l3 : List Sp.S) (v1 v2 v3 : Value) (W : World) : Prop where
  bx : Bx W B [v1, v2, v3] 74
  o1 : W.ownsRow n₀ 49 2 v1 l1.length (flat encS l1)
  o2 : W.ownsRow n₀ 49 2 v2 l2.length (flat encS l2)
  o3 : W.ownsRow n₀ 49 2 v3 l3.length (flat encS l3)
  a12 : Apart v1 v2
  a13 : Apart v1 v3
  a23 : Apart v2 v3
  lt : B < n₀
  le : n₀ ≤ W.heap.size
section
variable {n₀ B : Nat} {l1 l2 l3 : List Sp.S} {v1 v2 v3 : Value} {W : World}
theorem Tri.ext {W' : World} (h : Tri n₀ B l1 l2 l3 v1 v2 v3 W) (X : Ext W W') : Tri n₀ B l1 l2 l3 v1 v2 v3 W' :=
  ⟨h.bx.ext X, own_below h.o1 X, own_below h.o2 X, own_below h.o3 X, h.a12, h.a13, h.a23, h.lt, Nat.le_trans h.le X.size⟩
theorem Tri.new (n₀ B : Nat) (W : World) (hb : Bx W B [.slice none 0 0, .slice none 0 0, .slice none 0 0] 74) (lt : B < n₀) (le : n₀ ≤ W.heap.size) : Tri n₀ B [] [] [] (.slice none 0 0) (.slice none 0 0) (.slice none 0 0) W :=
  ⟨hb, World.ownsRow_nil _ _ _ _, World.ownsRow_nil _ _ _ _, World.ownsRow_nil _ _ _ _, .inl rfl, .inl rfl, .inl rfl, lt, le⟩
theorem apart_grown {v v' u : Value} {n k : Nat} {xs : List Value} (o : W.ownsRow n₀ 49 2 u n xs) (h : Apart u v) (hv : v'.ownBlock = v.ownBlock ∨ v'.ownBlock = some W.heap.size) : Apart u v' := by
  rcases h with h | h
  · exact .inl h
  · rcases hv with hv | hv
    · exact .inr (by rw [hv]; exact h)
    · refine .inr fun e => ?_
      rw [hv] at e
      have := (o.lt _ e).2
      omega
theorem not_own {v : Value} {n : Nat} {xs : List Value} (o : W.ownsRow n₀ 49 2 v n xs) (lt : B < n₀) : some B ≠ v.ownBlock := fun e => by have := (o.lt B e.symm).1; omega
theorem own_setB {v : Value} {n i : Nat} {xs : List Value} (o : W.ownsRow n₀ 49 2 v n xs) (lt : B < n₀) (u : Value) : (W.setCell ⟨B, i, none⟩ u).ownsRow n₀ 49 2 v n xs := by
  refine o.kept (row := some B) ⟨rfl, rfl, rfl, (KeepsWalks.setCell W _ u).size, fun k _ hk => Below.heap_setCell _ _ _ k (fun e => hk (by rw [e]))⟩ (.inr (not_own o lt).symm)
theorem bx_grown {W' : World} {cs : List Value} {t : TypeId} {v : Value} (h : Bx W B cs t) (hg : W.grownBy W' v.ownBlock) (hne : some B ≠ v.ownBlock) : Bx W' B cs t := (hg.block B h.lt hne).trans h
theorem Tri.set1 {W' : World} {l : List Sp.S} {v' : Value} (h : Tri n₀ B l1 l2 l3 v1 v2 v3 W) (o : W'.ownsRow n₀ 49 2 v' l.length (flat encS l)) (hg : W.grownBy W' v1.ownBlock) (hv : v'.ownBlock = v1.ownBlock ∨ v'.ownBlock = some W.heap.size) :
    Tri n₀ B l1 l2 l3 v1 v2 v3 W → Bx W' B [v1, v2, v3] 74 ∧ Tri n₀ B l l2 l3 v' v2 v3 (W'.setCell ⟨B, 0, none⟩ v') := fun _ => by
  have hb := bx_grown h.bx hg (not_own h.o1 h.lt)
  have le : n₀ ≤ W'.heap.size := Nat.le_trans h.le hg.size
  exact ⟨hb, hb.set_ 0 v', own_setB o h.lt _, own_setB (h.o2.kept hg h.a12.symm) h.lt _, own_setB (h.o3.kept hg h.a13.symm) h.lt _, (apart_grown h.o2 h.a12.symm hv (k := 0)).symm, (apart_grown h.o3 h.a13.symm hv (k := 0)).symm, h.a23, h.lt, by simpa [World.setCell] using le⟩
theorem Tri.set2 {W' : World} {l : List Sp.S} {v' : Value} (h : Tri n₀ B l1 l2 l3 v1 v2 v3 W) (o : W'.ownsRow n₀ 49 2 v' l.length (flat encS l)) (hg : W.grownBy W' v2.ownBlock) (hv : v'.ownBlock = v2.ownBlock ∨ v'.ownBlock = some W.heap.size) :
    Tri n₀ B l1 l2 l3 v1 v2 v3 W → Bx W' B [v1, v2, v3] 74 ∧ Tri n₀ B l1 l l3 v1 v' v3 (W'.setCell ⟨B, 1, none⟩ v') := fun _ => by
  have hb := bx_grown h.bx hg (not_own h.o2 h.lt)
  have le : n₀ ≤ W'.heap.size := Nat.le_trans h.le hg.size
  exact ⟨hb, hb.set_ 1 v', own_setB (h.o1.kept hg h.a12) h.lt _, own_setB o h.lt _, own_setB (h.o3.kept hg h.a23.symm) h.lt _, apart_grown h.o1 h.a12 hv (k := 0), h.a13, (apart_grown h.o3 h.a23.symm hv (k := 0)).symm, h.lt, by simpa [World.setCell] using le⟩
theorem Tri.set3 {W' : World} {l : List Sp.S} {v' : Value} (h : Tri n₀ B l1 l2 l3 v1 v2 v3 W) (o : W'.ownsRow n₀ 49 2 v' l.length (flat encS l)) (hg : W.grownBy W' v3.ownBlock) (hv : v'.ownBlock = v3.ownBlock ∨ v'.ownBlock = some W.heap.size) :
    Tri n₀ B l1 l2 l3 v1 v2 v3 W → Bx W' B [v1, v2, v3] 74 ∧ Tri n₀ B l1 l2 l v1 v2 v' (W'.setCell ⟨B, 2, none⟩ v') := fun _ => by
  have hb := bx_grown h.bx hg (not_own h.o3 h.lt)
  have le : n₀ ≤ W'.heap.size := Nat.le_trans h.le hg.size
  exact ⟨hb, hb.set_ 2 v', own_setB (h.o1.kept hg h.a13) h.lt _, own_setB (h.o2.kept hg h.a23) h.lt _, own_setB o h.lt _, h.a12, apart_grown h.o1 h.a13 hv (k := 0), apart_grown h.o2 h.a23 hv (k := 0), h.lt, by simpa [World.setCell] using le⟩
theorem tri_below {W0 W' : World} {v : Value} {i n : Nat} {xs : List Value} {u : Value} (X : Below B W0 W) (o : W.ownsRow n₀ 49 2 v n xs) (lt : B < n₀) (le : n₀ ≤ W.heap.size) (hg : W.grownBy W' v.ownBlock) : Below B W0 (W'.setCell ⟨B, i, none⟩ u) :=
  (X.grown hg (by omega) fun g hg' => by have := (o.lt g hg').1; omega).setCell (p := ⟨B, i, none⟩) (Nat.le_refl _) u
end

/-- A struct that is the function's result lies in a block. -/
theorem results_row {fn : Func} {p : Tmp} (h : fn.results = #[.cell p 74]) (tmps : Array Value) (w : World) (g : Nat) (cs : List Value)
    (hp : tmps.getD p undef = .pointer (some ⟨g, 0, none⟩)) (hb : Bx w g cs 74) (hl : cs.length = 3) : (results fn tmps).run Tryz.prog w = .ok (.agg cs.toArray) w := by
  have hp' : tmps[p]?.getD undef = .pointer (some ⟨g, 0, none⟩) := by simpa using hp
  have hz : (Tryz.prog.info? 74).map (·.size) = some cs.toArray.size := by
    rw [show cs.toArray.size = 3 from by simpa using hl]; kernel_rfl
  have k := run_loadVar_row (P := Tryz.prog) w g 74 74 cs.toArray (0, 0) _ hb Tryz.underlying74 rfl hz
  simp [results, h, hp', asAddr]
  exact k
end Go.Proofs.YtnhmibfgaoealaaGreat
namespace Go.Proofs.YtnhmibfgaoealaaGreat
open Go.RowKit
set_option linter.unusedVariables false
set_option linter.unusedSimpArgs false

def tot : List Sp.S → Int → Int
  | [], k => k
  | s :: r, k => tot r (k + s.2 - s.1)
theorem tot_snoc (l : List Sp.S) (s : Sp.S) (k : Int) : tot (l ++ [s]) k = tot l k + s.2 - s.1 := by
  induction l generalizing k with
  | nil => rfl
  | cons x r ih => exact ih _
theorem cutR_snoc (R : Int) (l : List Sp.S) (s : Sp.S) (k : Int) : cutR R (l ++ [s]) k = cutR R l k ++ [(s.1, s.1 + max 0 (min (s.2 - s.1) (R - tot l k)))] := by
  induction l generalizing k with
  | nil => rfl
  | cons x r ih => show _ :: cutR R (r ++ [s]) _ = _; rw [ih]; rfl
theorem cutO_snoc (R O : Int) (l : List Sp.S) (s : Sp.S) (k : Int) : cutO R O (l ++ [s]) k = cutO R O l k ++ [(s.1 + max 0 (min (s.2 - s.1) (R - tot l k)), s.1 + max 0 (min (s.2 - s.1) (O - tot l k)))] := by
  induction l generalizing k with
  | nil => rfl
  | cons x r ih => show _ :: cutO R O (r ++ [s]) _ = _; rw [ih]; rfl
theorem cutD_snoc (O : Int) (l : List Sp.S) (s : Sp.S) (k : Int) : cutD O (l ++ [s]) k = cutD O l k ++ [(s.1 + max 0 (min (s.2 - s.1) (O - tot l k)), s.2)] := by
  induction l generalizing k with
  | nil => rfl
  | cons x r ih => show _ :: cutD O (r ++ [s]) _ = _; rw [ih]; rfl
theorem cutR_len (R : Int) (l : List Sp.S) (k : Int) : (cutR R l k).length = l.length := by
  induction l generalizing k with
  | nil => rfl
  | cons x r ih => simp [cutR, ih]
theorem cutO_len (R O : Int) (l : List Sp.S) (k : Int) : (cutO R O l k).length = l.length := by
  induction l generalizing k with
  | nil => rfl
  | cons x r ih => simp [cutO, ih]
theorem cutD_len (O : Int) (l : List Sp.S) (k : Int) : (cutD O l k).length = l.length := by
  induction l generalizing k with
  | nil => rfl
  | cons x r ih => simp [cutD, ih]
/-- What the reference hands back: a struct of three slices, each of which owns its row. -/
def RetT (w : World) (l1 l2 l3 : List Sp.S) (e : Ending) (w' : World) : Prop := ∃ A1 c1 A2 c2 A3 c3, e = .returned (.agg #[.slice A1 l1.length c1, .slice A2 l2.length c2, .slice A3 l3.length c3]) ∧
  (w'.ownsRow w.heap.size 49 2 (.slice A1 l1.length c1) l1.length (flat encS l1) ∧ w'.ownsRow w.heap.size 49 2 (.slice A2 l2.length c2) l2.length (flat encS l2) ∧ w'.ownsRow w.heap.size 49 2 (.slice A3 l3.length c3) l3.length (flat encS l3)) ∧ Ext w w'

set_option maxRecDepth 100000 in
set_option maxHeartbeats 4000000 in
theorem rCutA (cs : List Value) (hcs : cs.length = 23) (R O : Int) (c13 : cs[13]? = some (.int .i64 R)) (c14 : cs[14]? = some (.int .i64 O)) (bR : 0 ≤ R ∧ R ≤ 86400) (bO : 0 ≤ O ∧ O ≤ 86400) (l : List Sp.S) (hl : l.length ≤ 900000) (hp : ∀ x ∈ l, 0 ≤ x.1 ∧ x.1 ≤ x.2 ∧ x.2 ≤ 32054400) (A : Option Addr) (c : Nat) (w : World) (h : Rs w A l) :
    Calls Tryz.prog 89 #[.agg cs.toArray, .slice A l.length c] w (RetT w (cutR R l 0) (cutO R O l 0) (cutD O l 0)) := by
  obtain ⟨W3, hW3⟩ : ∃ W, W = ((w.alloc (.cells cs.toArray 30)).alloc (.cells #[.slice none 0 0, .slice none 0 0, .slice none 0 0] 74)).alloc (.cells #[.slice none 0 0, .slice none 0 0, .slice none 0 0] 74) := ⟨_, rfl⟩
  have hs0 : Bx W3 w.heap.size cs 30 := by rw [hW3]; exact ((Bx.new w cs 30).alloc _).alloc _
  have h40 : Bx W3 (w.heap.size + 1) [.slice none 0 0, .slice none 0 0, .slice none 0 0] 74 := by rw [hW3]; exact (Bx.new_at _ [.slice none 0 0, .slice none 0 0, .slice none 0 0] 74 _ (by simp)).alloc _
  have h50 : Bx W3 (w.heap.size + 1 + 1) [.slice none 0 0, .slice none 0 0, .slice none 0 0] 74 := by rw [hW3]; exact Bx.new_at _ [.slice none 0 0, .slice none 0 0, .slice none 0 0] 74 _ (by simp)
  have hz : W3.heap.size = w.heap.size + 3 := by rw [hW3]; simp
  have X0 : Ext w W3 := by rw [hW3]; exact (((Ext.refl w).alloc _).alloc _).alloc _
  have T0 := Lib.hid (Tri.new (w.heap.size + 3) (w.heap.size + 1 + 1) W3 h50 (by omega) (by omega))
  replace h := Lib.hid h; replace hs0 := Lib.hid hs0; replace h40 := Lib.hid h40; replace X0 := Lib.hid X0; replace hp := Lib.hid hp
  clear hcs h50
  go_enter Tryz.func89, Tryz.ntmps89
  go_wp2_with fail
  rw [← hW3]
  replace hW3 := Lib.hid hW3
  go_loopw [6, 7] (fun nv iv wr => ∃ (k : Nat) (v1 v2 v3 : Value), k ≤ l.length ∧ nv = .int .i64 (tot (l.take k) 0) ∧ iv = .int .i64 k ∧ Hid (0 ≤ tot (l.take k) 0 ∧ tot (l.take k) 0 ≤ 32054400 * k) ∧ Hid (Tri (w.heap.size + 3) (w.heap.size + 1 + 1) (cutR R (l.take k) 0) (cutO R O (l.take k) 0) (cutD O (l.take k) 0) v1 v2 v3 wr) ∧ Hid (Below (w.heap.size + 1 + 1) W3 wr)) (fun _ iv _ => l.length - (intOf iv).toNat)
  case atStart => exact ⟨0, _, _, _, Nat.zero_le _, rfl, rfl, (show _ ∧ _ from ⟨by simp [tot], by simp [tot]⟩), T0.out, Below.refl _ _⟩
  case round =>
    obtain ⟨k, v1, v2, v3, hk, rfl, rfl, HN, HT, HX⟩ := hrel
    have hs1 : Bx wr w.heap.size cs 30 := (HX.out.block _ (by omega)).trans hs0.out
    have z13 := hs1.cell 13 _ c13
    have z14 := hs1.cell 14 _ c14
    have XE : Ext w wr := Below.trans X0.out (Below.mono HX.out (by omega))
    by_cases hlt : k < l.length
    · obtain ⟨b, off, p, q, rfl, hbB, hx, d0, d1⟩ := Rd.at2 h.out XE hlt
      have q3 : (k : Int) < (l.length : Int) := by omega
      have q4 : (0 : Int) ≤ (k : Int) := by omega
      obtain ⟨p0, pq, q0⟩ := hp.out _ (List.mem_of_getElem? hx.out)
      replace p0 : 0 ≤ p := p0
      replace pq : p ≤ q := pq
      replace q0 : q ≤ 32054400 := q0
      obtain ⟨N0, N1⟩ := HN.out
      obtain ⟨n, hn⟩ : ∃ n, tot (l.take k) 0 = n := ⟨_, rfl⟩
      obtain ⟨S, hS⟩ : ∃ S, p + max 0 (min (q - p) (R - n)) = S := ⟨_, rfl⟩
      obtain ⟨G, hG⟩ : ∃ S, p + max 0 (min (q - p) (O - n)) = S := ⟨_, rfl⟩
      have E1 : Hid (cutR R (l.take (k + 1)) 0 = cutR R (l.take k) 0 ++ [(p, S)]) := by show _ = _; rw [take_snoc hx.out, cutR_snoc, hn, ← hS]
      have E2 : Hid (cutO R O (l.take (k + 1)) 0 = cutO R O (l.take k) 0 ++ [(S, G)]) := by show _ = _; rw [take_snoc hx.out, cutO_snoc, hn, ← hS, ← hG]
      have E3 : Hid (cutD O (l.take (k + 1)) 0 = cutD O (l.take k) 0 ++ [(G, q)]) := by show _ = _; rw [take_snoc hx.out, cutD_snoc, hn, ← hG]
      have E4 : Hid (tot (l.take (k + 1)) 0 = n + q - p) := by show _ = _; rw [take_snoc hx.out, tot_snoc, hn]
      have L1 : (cutR R (l.take k) 0).length = k := by rw [cutR_len, List.length_take]; omega
      have L2 : (cutO R O (l.take k) 0).length = k := by rw [cutO_len, List.length_take]; omega
      have L3 : (cutD O (l.take k) 0).length = k := by rw [cutD_len, List.length_take]; omega
      rw [hn] at N0 N1
      have w1 : IntKind.i64.wrap (q - p) = q - p := IntWalk.i64_in _ (by omega)
      have w2 : IntKind.i64.wrap (R - n) = R - n := IntWalk.i64_in _ (by omega)
      have w3 : IntKind.i64.wrap (O - n) = O - n := IntWalk.i64_in _ (by omega)
      have w4 : IntKind.i64.wrap (p + max 0 (min (q - p) (R - n))) = S := by rw [hS]; exact IntWalk.i64_in _ (by omega)
      have w5 : IntKind.i64.wrap (p + max 0 (min (q - p) (O - n))) = G := by rw [hG]; exact IntWalk.i64_in _ (by omega)
      have w6 : IntKind.i64.wrap (n + q) = n + q := IntWalk.i64_in _ (by omega)
      have w7 : IntKind.i64.wrap (n + q - p) = n + q - p := IntWalk.i64_in _ (by omega)
      have HN2 : Hid (0 ≤ tot (l.take (k + 1)) 0 ∧ tot (l.take (k + 1)) 0 ≤ 32054400 * ((k + 1 : Nat) : Int)) := by show _ ∧ _; rw [E4.out]; omega
      obtain ⟨A1, c1, rfl, _, _⟩ := own_form HT.out.o1
      obtain ⟨A2, c2, rfl, _, _⟩ := own_form HT.out.o2
      obtain ⟨A3, c3, rfl, _, _⟩ := own_form HT.out.o3
      have e0 := HT.out.bx.cell 0 _ rfl
      have TA := Lib.hid (HT.out.ext ((Ext.refl wr).alloc (.cells #[.int .i64 p, .int .i64 S] 49)))
      have hwr : w.heap.size + 3 ≤ wr.heap.size := HT.out.le
      replace L1 := Lib.hid L1; replace L2 := Lib.hid L2; replace L3 := Lib.hid L3; replace hs1 := Lib.hid hs1
      have ZA := Lib.hid (HX.out.alloc (by omega) (.cells #[.int .i64 p, .int .i64 S] 49))
      clear hS hG HN
      go_wp2_with (at_builtin; first | (refine app_tri (w.heap.size + 3) _ (Nat.le_trans T2.out.le (Nat.le_refl _)) _ _ rfl rfl _ _ (cutD O (l.take k) 0) [(G, q)] rfl T2.out.o3 _ _ 1 rfl (Rs.new_g _ [(G, q)] _ _ (by simp [World.setCell])) rfl (by have := L3.out; simp; omega) ?_; intro B3 f3 u3 o3 g3 y3; have p3 : u3.ownsRow (w.heap.size + 3) 49 2 (.slice B3 ((cutD O (l.take k) 0).length + 1) f3) (cutD O (l.take (k + 1)) 0).length (flat encS (cutD O (l.take (k + 1)) 0)) := (by rw [E3.out, List.length_append]; exact o3); have P3 := T2.out.set3 p3 g3 y3 T2.out; have s3 := P3.1.cell 2 _ rfl; have t3 := P3.1.frozen 2; have Y3 := Lib.hid (tri_below (i := 2) (u := .slice B3 ((cutD O (l.take k) 0).length + 1) f3) (Z2.out) T2.out.o3 T2.out.lt T2.out.le g3); have T3 := Lib.hid P3.2; clear o3 p3 P3) | (refine app_tri (w.heap.size + 3) _ (Nat.le_trans T1.out.le (Nat.le_refl _)) _ _ rfl rfl _ _ (cutO R O (l.take k) 0) [(S, G)] rfl T1.out.o2 _ _ 1 rfl (Rs.new_g _ [(S, G)] _ _ (by simp [World.setCell])) rfl (by have := L2.out; simp; omega) ?_; intro B2 f2 u2 o2 g2 y2; have p2 : u2.ownsRow (w.heap.size + 3) 49 2 (.slice B2 ((cutO R O (l.take k) 0).length + 1) f2) (cutO R O (l.take (k + 1)) 0).length (flat encS (cutO R O (l.take (k + 1)) 0)) := (by rw [E2.out, List.length_append]; exact o2); have P2 := T1.out.set2 p2 g2 y2 T1.out; have s2 := P2.1.cell 1 _ rfl; have t2 := P2.1.frozen 1; have Y2 := Lib.hid (tri_below (i := 1) (u := .slice B2 ((cutO R O (l.take k) 0).length + 1) f2) (Z1.out) T1.out.o2 T1.out.lt T1.out.le g2); have T2 := Lib.hid (P2.2.ext ((Ext.refl _).alloc (.cells #[.int .i64 G, .int .i64 q] 49))); have n2 := P2.2.bx.cell 2 _ rfl; have Z2 := Lib.hid (Y2.out.alloc (by have := P2.2.le; omega) (.cells #[.int .i64 G, .int .i64 q] 49)); clear o2 p2 P2) | (refine app_tri (w.heap.size + 3) _ (by simp; omega) _ _ rfl rfl _ _ (cutR R (l.take k) 0) [(p, S)] rfl TA.out.o1 _ _ 1 rfl (Rs.new_g _ [(p, S)] _ _ rfl) rfl (by have := L1.out; simp; omega) ?_; intro B1 f1 u1 o1 g1 y1; have p1 : u1.ownsRow (w.heap.size + 3) 49 2 (.slice B1 ((cutR R (l.take k) 0).length + 1) f1) (cutR R (l.take (k + 1)) 0).length (flat encS (cutR R (l.take (k + 1)) 0)) := (by rw [E1.out, List.length_append]; exact o1); have P1 := TA.out.set1 p1 g1 y1 TA.out; have s1 := P1.1.cell 0 _ rfl; have t1 := P1.1.frozen 0; have Y1 := Lib.hid (tri_below (i := 0) (u := .slice B1 ((cutR R (l.take k) 0).length + 1) f1) (ZA.out) TA.out.o1 TA.out.lt TA.out.le g1); have T1 := Lib.hid (P1.2.ext ((Ext.refl _).alloc (.cells #[.int .i64 S, .int .i64 G] 49))); have n1 := P1.2.bx.cell 1 _ rfl; have Z1 := Lib.hid (Y1.out.alloc (by have := P1.2.le; omega) (.cells #[.int .i64 S, .int .i64 G] 49)); clear o1 p1 P1))
      have T4 := Lib.hid T3.out
      clear T1 T2 T3 TA HT ZA Z1 Z2 Y1 Y2
      go_roundw
      case rel => exact ⟨k + 1, _, _, _, by omega, by rw [E4.out], by go_num, HN2, T4, Y3⟩
      case measure => simp [intOf]; omega
    · obtain rfl : k = l.length := by omega
      rw [List.take_length] at HT
      obtain ⟨A1, c1, rfl, _, _⟩ := own_form HT.out.o1
      obtain ⟨A2, c2, rfl, _, _⟩ := own_form HT.out.o2
      obtain ⟨A3, c3, rfl, _, _⟩ := own_form HT.out.o3
      have e0 := HT.out.bx.cell 0 _ rfl
      have e1 := HT.out.bx.cell 1 _ rfl
      have e2 := HT.out.bx.cell 2 _ rfl
      have h4 : Hid (Bx wr (w.heap.size + 1) [.slice none 0 0, .slice none 0 0, .slice none 0 0] 74) := (HX.out.block _ (by omega)).trans h40.out
      have f0 := h4.out.cell 0 _ rfl
      have f1 := h4.out.cell 1 _ rfl
      have f2 := h4.out.cell 2 _ rfl
      have g0 := h4.out.frozen 0
      have g1 := h4.out.frozen 1
      have g2 := h4.out.frozen 2
      have hb := Lib.hid (((h4.out.set_ 0 (.slice A1 (cutR R l 0).length c1)).set_ 1 (.slice A2 (cutO R O l 0).length c2)).set_ 2 (.slice A3 (cutD O l 0).length c3))
      have p1 := Lib.hid (own_base (own_setB (B := w.heap.size + 1) (i := 2) (own_setB (B := w.heap.size + 1) (i := 1) (own_setB (i := 0) HT.out.o1 (B := w.heap.size + 1) (by omega) (.slice A1 (cutR R l 0).length c1)) (by omega) (.slice A2 (cutO R O l 0).length c2)) (by omega) (.slice A3 (cutD O l 0).length c3)) (show w.heap.size ≤ w.heap.size + 3 by omega))
      have p2 := Lib.hid (own_base (own_setB (B := w.heap.size + 1) (i := 2) (own_setB (B := w.heap.size + 1) (i := 1) (own_setB (i := 0) HT.out.o2 (B := w.heap.size + 1) (by omega) (.slice A1 (cutR R l 0).length c1)) (by omega) (.slice A2 (cutO R O l 0).length c2)) (by omega) (.slice A3 (cutD O l 0).length c3)) (show w.heap.size ≤ w.heap.size + 3 by omega))
      have p3 := Lib.hid (own_base (own_setB (B := w.heap.size + 1) (i := 2) (own_setB (B := w.heap.size + 1) (i := 1) (own_setB (i := 0) HT.out.o3 (B := w.heap.size + 1) (by omega) (.slice A1 (cutR R l 0).length c1)) (by omega) (.slice A2 (cutO R O l 0).length c2)) (by omega) (.slice A3 (cutD O l 0).length c3)) (show w.heap.size ≤ w.heap.size + 3 by omega))
      have XF := Lib.hid ((Below.setCell (Below.setCell (Below.setCell XE (p := ⟨w.heap.size + 1, 0, none⟩) (by show w.heap.size ≤ w.heap.size + 1; omega) (.slice A1 (cutR R l 0).length c1)) (p := ⟨w.heap.size + 1, 1, none⟩) (by show w.heap.size ≤ w.heap.size + 1; omega) (.slice A2 (cutO R O l 0).length c2)) (p := ⟨w.heap.size + 1, 2, none⟩) (by show w.heap.size ≤ w.heap.size + 1; omega) (.slice A3 (cutD O l 0).length c3)))
      clear HT h4 HX hs1 HN
      go_wp2
      refine bodyPost_ret (results_row rfl _ _ (w.heap.size + 1) [.slice A1 (cutR R l 0).length c1, .slice A2 (cutO R O l 0).length c2, .slice A3 (cutD O l 0).length c3] rfl hb.out rfl) rfl ?_
      exact ⟨A1, c1, A2, c2, A3, c3, rfl, ⟨p1.out, p2.out, p3.out⟩, XF.out⟩
end Go.Proofs.YtnhmibfgaoealaaGreat
