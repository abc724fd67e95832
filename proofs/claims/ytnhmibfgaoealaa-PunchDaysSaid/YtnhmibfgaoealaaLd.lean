/-
  Laws of layer 11.
-/
import Derived.Test.YtnhmibfgaoealaaOs
namespace Go.Proofs.Ytnhmibfgaoealaa
open Go.RowKit
set_option linter.unusedVariables false
set_option linter.unusedSimpArgs false


theorem weekOf_mono {t u : Int} (h : t ≤ u) : weekOf t ≤ weekOf u := by unfold weekOf; omega
theorem weekOf_bd (t : Int) : 0 ≤ weekOf t ∧ weekOf t ≤ 52 := by unfold weekOf; omega
theorem weekOf_near {t u : Int} (h : t ≤ u) (h2 : u < t + 604800) : weekOf u - weekOf t ≤ 1 := by unfold weekOf; omega
theorem weekOf_clamp (t : Int) : weekOf (min (max t 0) 32054399) = weekOf t := by unfold weekOf; omega
theorem touchBy_bd (u c : Int) : 0 ≤ touchBy u c ∧ touchBy u c ≤ 1209600 := by unfold touchBy; omega
theorem touchA_le (u c t : Int) : 0 ≤ touchA u c t ∧ touchA u c t ≤ weekOf t := by
  have := touchBy_bd u c
  refine ⟨(weekOf_bd _).1, ?_⟩
  rw [← weekOf_clamp t]
  exact weekOf_mono (by omega)
theorem touchB_le (u c t : Int) : weekOf t ≤ touchB u c t ∧ touchB u c t ≤ 52 := by
  have := touchBy_bd u c
  refine ⟨?_, (weekOf_bd _).2⟩
  rw [← weekOf_clamp t]
  exact weekOf_mono (by omega)
theorem touch_near {u c t : Int} (h : touchBy u c ≤ 300000) : touchB u c t - touchA u c t ≤ 1 := by
  have := touchBy_bd u c
  exact weekOf_near (by omega) (by omega)
theorem day_facts (t : Int) : dayOf t * 86400 ≤ min (max t 0) 32054399 ∧ min (max t 0) 32054399 < (dayOf t + 1) * 86400 ∧ weekOf t * 604800 ≤ min (max t 0) 32054399 ∧ min (max t 0) 32054399 < (weekOf t + 1) * 604800 ∧ dayOf t / 7 = weekOf t := by
  unfold dayOf weekOf
  generalize min (max t 0) 32054399 = n
  omega

set_option maxRecDepth 100000 in
set_option maxHeartbeats 1000000 in
theorem days11_0 (v_pl v_wy v_p1 v_p2 v_el v_cl v_ge v_al v_pb v_aa v_ab v_dr v_do v_wr v_nf v_nt v_ra v_di v_le v_fa v_ti : Value) (u c t : Int) (g0 : u < 1) (w : World) : Calls Try.prog 4 #[.agg #[v_pl, v_wy, v_p1, v_p2, v_el, v_cl, v_ge, v_al, .int .i64 u, .int .i64 c, v_pb, v_aa, v_ab, v_dr, v_do, v_wr, v_nf, v_nt, v_ra, v_di, v_le, v_fa, v_ti], .int .i64 t] w (RetB w true) := by
  have D := day_facts t
  have DA := touchA_le u c t
  have DB := touchB_le u c t
  have D0 := dayOf_bd t
  obtain ⟨n, hn, n0, n1⟩ : ∃ n, min (max t 0) 32054399 = n ∧ 0 ≤ n ∧ n ≤ 32054399 := ⟨_, rfl, by omega, by omega⟩
  have b2 : True := trivial
  obtain ⟨d, hd⟩ : ∃ d, dayOf t = d := ⟨_, rfl⟩
  obtain ⟨v, hv⟩ : ∃ d, weekOf t = d := ⟨_, rfl⟩
  obtain ⟨a, ha⟩ : ∃ d, touchA u c t = d := ⟨_, rfl⟩
  obtain ⟨b, hb⟩ : ∃ d, touchB u c t = d := ⟨_, rfl⟩
  rw [hn, hd, hv] at D; rw [ha, hv] at DA; rw [hb, hv] at DB; rw [hd] at D0
  obtain ⟨d0, d1, v0, v1, v2⟩ := D
  obtain ⟨a0, a1⟩ := DA
  obtain ⟨b0, b1⟩ := DB
  obtain ⟨d2, d3⟩ := D0
  have q1 : d.tdiv 7 = v := by rw [Int.tdiv_eq_ediv_of_nonneg (by omega)]; exact v2
  have kd := fun w => pDay t w; rw [hd] at kd; replace kd := Lib.hid kd
  have kv := fun w => pWeek t w; rw [hv] at kv; replace kv := Lib.hid kv
  have kt := fun w => pTouch v_pl v_wy v_p1 v_p2 v_el v_cl v_ge v_al v_pb v_aa v_ab v_dr v_do v_wr v_nf v_nt v_ra v_di v_le v_fa v_ti u c t w; rw [ha, hb] at kt; replace kt := Lib.hid kt
  clear hd hv ha hb
  have h_s1 := Bx.new w [v_pl, v_wy, v_p1, v_p2, v_el, v_cl, v_ge, v_al, .int .i64 u, .int .i64 c, v_pb, v_aa, v_ab, v_dr, v_do, v_wr, v_nf, v_nt, v_ra, v_di, v_le, v_fa, v_ti] 35
  go_enter Try.func4, Try.ntmps4
  go_wp2_with fail
  refine (awake11 _).mono ?_
  rintro e w1 ⟨rfl, x1⟩
  have X1 := ((Ext.refl _).alloc _).trans x1
  have hs1 := h_s1.ext x1
  go_wp2_with fail
  refine (kd.out _).mono ?_
  rintro e w2 ⟨rfl, x2⟩
  have hs2 := hs1.ext x2; clear hs1
  have X2 := X1.trans x2
  go_wp2_with fail
  refine (kv.out _).mono ?_
  rintro e w3 ⟨rfl, x3⟩
  have hs3 := hs2.ext x3; clear hs2
  have X3 := X2.trans x3
  go_wp2_with (first | (refine load_box rfl 35 _ rfl _ rfl _ _ hs3 _ Try.underlying35 rfl (by kernel_rfl) ?_))
  refine (kt.out _).mono ?_
  rintro e w4 ⟨rfl, x4⟩
  have hs4 := hs3.ext x4; clear hs3
  have X4 := X3.trans x4
  obtain ⟨z1_0, z1_1, z1_2, z1_3, z1_4, z1_5, z1_6, z1_7, z1_8, z1_9, z1_10, z1_11, z1_12, z1_13, z1_14, z1_15, z1_16, z1_17, z1_18, z1_19, z1_20, z1_21, z1_22⟩ := suCells hs4
  go_wp2
  go_ret
  exact ⟨rfl, X4⟩

set_option maxRecDepth 100000 in
set_option maxHeartbeats 1000000 in
theorem days11_1 (v_pl v_wy v_p1 v_p2 v_el v_cl v_ge v_al v_pb v_aa v_ab v_dr v_do v_wr v_nf v_nt v_ra v_di v_le v_fa v_ti : Value) (u c t : Int) (g0 : 1 ≤ u) (g1 : c < 1) (w : World) : Calls Try.prog 4 #[.agg #[v_pl, v_wy, v_p1, v_p2, v_el, v_cl, v_ge, v_al, .int .i64 u, .int .i64 c, v_pb, v_aa, v_ab, v_dr, v_do, v_wr, v_nf, v_nt, v_ra, v_di, v_le, v_fa, v_ti], .int .i64 t] w (RetB w true) := by
  have D := day_facts t
  have DA := touchA_le u c t
  have DB := touchB_le u c t
  have D0 := dayOf_bd t
  obtain ⟨n, hn, n0, n1⟩ : ∃ n, min (max t 0) 32054399 = n ∧ 0 ≤ n ∧ n ≤ 32054399 := ⟨_, rfl, by omega, by omega⟩
  have b2 : True := trivial
  obtain ⟨d, hd⟩ : ∃ d, dayOf t = d := ⟨_, rfl⟩
  obtain ⟨v, hv⟩ : ∃ d, weekOf t = d := ⟨_, rfl⟩
  obtain ⟨a, ha⟩ : ∃ d, touchA u c t = d := ⟨_, rfl⟩
  obtain ⟨b, hb⟩ : ∃ d, touchB u c t = d := ⟨_, rfl⟩
  rw [hn, hd, hv] at D; rw [ha, hv] at DA; rw [hb, hv] at DB; rw [hd] at D0
  obtain ⟨d0, d1, v0, v1, v2⟩ := D
  obtain ⟨a0, a1⟩ := DA
  obtain ⟨b0, b1⟩ := DB
  obtain ⟨d2, d3⟩ := D0
  have q1 : d.tdiv 7 = v := by rw [Int.tdiv_eq_ediv_of_nonneg (by omega)]; exact v2
  have kd := fun w => pDay t w; rw [hd] at kd; replace kd := Lib.hid kd
  have kv := fun w => pWeek t w; rw [hv] at kv; replace kv := Lib.hid kv
  have kt := fun w => pTouch v_pl v_wy v_p1 v_p2 v_el v_cl v_ge v_al v_pb v_aa v_ab v_dr v_do v_wr v_nf v_nt v_ra v_di v_le v_fa v_ti u c t w; rw [ha, hb] at kt; replace kt := Lib.hid kt
  clear hd hv ha hb
  have h_s1 := Bx.new w [v_pl, v_wy, v_p1, v_p2, v_el, v_cl, v_ge, v_al, .int .i64 u, .int .i64 c, v_pb, v_aa, v_ab, v_dr, v_do, v_wr, v_nf, v_nt, v_ra, v_di, v_le, v_fa, v_ti] 35
  go_enter Try.func4, Try.ntmps4
  go_wp2_with fail
  refine (awake11 _).mono ?_
  rintro e w1 ⟨rfl, x1⟩
  have X1 := ((Ext.refl _).alloc _).trans x1
  have hs1 := h_s1.ext x1
  go_wp2_with fail
  refine (kd.out _).mono ?_
  rintro e w2 ⟨rfl, x2⟩
  have hs2 := hs1.ext x2; clear hs1
  have X2 := X1.trans x2
  go_wp2_with fail
  refine (kv.out _).mono ?_
  rintro e w3 ⟨rfl, x3⟩
  have hs3 := hs2.ext x3; clear hs2
  have X3 := X2.trans x3
  go_wp2_with (first | (refine load_box rfl 35 _ rfl _ rfl _ _ hs3 _ Try.underlying35 rfl (by kernel_rfl) ?_))
  refine (kt.out _).mono ?_
  rintro e w4 ⟨rfl, x4⟩
  have hs4 := hs3.ext x4; clear hs3
  have X4 := X3.trans x4
  obtain ⟨z1_0, z1_1, z1_2, z1_3, z1_4, z1_5, z1_6, z1_7, z1_8, z1_9, z1_10, z1_11, z1_12, z1_13, z1_14, z1_15, z1_16, z1_17, z1_18, z1_19, z1_20, z1_21, z1_22⟩ := suCells hs4
  go_wp2
  go_ret
  exact ⟨rfl, X4⟩

set_option maxRecDepth 100000 in
set_option maxHeartbeats 1000000 in
theorem days11_2 (v_pl v_wy v_p1 v_p2 v_el v_cl v_ge v_al v_pb v_aa v_ab v_dr v_do v_wr v_nf v_nt v_ra v_di v_le v_fa v_ti : Value) (u c t : Int) (g0 : 1 ≤ u) (g1 : 1 ≤ c) (g2 : 3600 < u) (w : World) : Calls Try.prog 4 #[.agg #[v_pl, v_wy, v_p1, v_p2, v_el, v_cl, v_ge, v_al, .int .i64 u, .int .i64 c, v_pb, v_aa, v_ab, v_dr, v_do, v_wr, v_nf, v_nt, v_ra, v_di, v_le, v_fa, v_ti], .int .i64 t] w (RetB w true) := by
  have D := day_facts t
  have DA := touchA_le u c t
  have DB := touchB_le u c t
  have D0 := dayOf_bd t
  obtain ⟨n, hn, n0, n1⟩ : ∃ n, min (max t 0) 32054399 = n ∧ 0 ≤ n ∧ n ≤ 32054399 := ⟨_, rfl, by omega, by omega⟩
  have b2 : True := trivial
  obtain ⟨d, hd⟩ : ∃ d, dayOf t = d := ⟨_, rfl⟩
  obtain ⟨v, hv⟩ : ∃ d, weekOf t = d := ⟨_, rfl⟩
  obtain ⟨a, ha⟩ : ∃ d, touchA u c t = d := ⟨_, rfl⟩
  obtain ⟨b, hb⟩ : ∃ d, touchB u c t = d := ⟨_, rfl⟩
  rw [hn, hd, hv] at D; rw [ha, hv] at DA; rw [hb, hv] at DB; rw [hd] at D0
  obtain ⟨d0, d1, v0, v1, v2⟩ := D
  obtain ⟨a0, a1⟩ := DA
  obtain ⟨b0, b1⟩ := DB
  obtain ⟨d2, d3⟩ := D0
  have q1 : d.tdiv 7 = v := by rw [Int.tdiv_eq_ediv_of_nonneg (by omega)]; exact v2
  have kd := fun w => pDay t w; rw [hd] at kd; replace kd := Lib.hid kd
  have kv := fun w => pWeek t w; rw [hv] at kv; replace kv := Lib.hid kv
  have kt := fun w => pTouch v_pl v_wy v_p1 v_p2 v_el v_cl v_ge v_al v_pb v_aa v_ab v_dr v_do v_wr v_nf v_nt v_ra v_di v_le v_fa v_ti u c t w; rw [ha, hb] at kt; replace kt := Lib.hid kt
  clear hd hv ha hb
  have h_s1 := Bx.new w [v_pl, v_wy, v_p1, v_p2, v_el, v_cl, v_ge, v_al, .int .i64 u, .int .i64 c, v_pb, v_aa, v_ab, v_dr, v_do, v_wr, v_nf, v_nt, v_ra, v_di, v_le, v_fa, v_ti] 35
  go_enter Try.func4, Try.ntmps4
  go_wp2_with fail
  refine (awake11 _).mono ?_
  rintro e w1 ⟨rfl, x1⟩
  have X1 := ((Ext.refl _).alloc _).trans x1
  have hs1 := h_s1.ext x1
  go_wp2_with fail
  refine (kd.out _).mono ?_
  rintro e w2 ⟨rfl, x2⟩
  have hs2 := hs1.ext x2; clear hs1
  have X2 := X1.trans x2
  go_wp2_with fail
  refine (kv.out _).mono ?_
  rintro e w3 ⟨rfl, x3⟩
  have hs3 := hs2.ext x3; clear hs2
  have X3 := X2.trans x3
  go_wp2_with (first | (refine load_box rfl 35 _ rfl _ rfl _ _ hs3 _ Try.underlying35 rfl (by kernel_rfl) ?_))
  refine (kt.out _).mono ?_
  rintro e w4 ⟨rfl, x4⟩
  have hs4 := hs3.ext x4; clear hs3
  have X4 := X3.trans x4
  obtain ⟨z1_0, z1_1, z1_2, z1_3, z1_4, z1_5, z1_6, z1_7, z1_8, z1_9, z1_10, z1_11, z1_12, z1_13, z1_14, z1_15, z1_16, z1_17, z1_18, z1_19, z1_20, z1_21, z1_22⟩ := suCells hs4
  go_wp2
  go_ret
  exact ⟨rfl, X4⟩

set_option maxRecDepth 100000 in
set_option maxHeartbeats 1000000 in
theorem days11_3 (v_pl v_wy v_p1 v_p2 v_el v_cl v_ge v_al v_pb v_aa v_ab v_dr v_do v_wr v_nf v_nt v_ra v_di v_le v_fa v_ti : Value) (u c t : Int) (g0 : 1 ≤ u) (g1 : 1 ≤ c) (g2 : u ≤ 3600) (g3 : 57600 < c) (w : World) : Calls Try.prog 4 #[.agg #[v_pl, v_wy, v_p1, v_p2, v_el, v_cl, v_ge, v_al, .int .i64 u, .int .i64 c, v_pb, v_aa, v_ab, v_dr, v_do, v_wr, v_nf, v_nt, v_ra, v_di, v_le, v_fa, v_ti], .int .i64 t] w (RetB w true) := by
  have D := day_facts t
  have DA := touchA_le u c t
  have DB := touchB_le u c t
  have D0 := dayOf_bd t
  obtain ⟨n, hn, n0, n1⟩ : ∃ n, min (max t 0) 32054399 = n ∧ 0 ≤ n ∧ n ≤ 32054399 := ⟨_, rfl, by omega, by omega⟩
  have b2 : True := trivial
  obtain ⟨d, hd⟩ : ∃ d, dayOf t = d := ⟨_, rfl⟩
  obtain ⟨v, hv⟩ : ∃ d, weekOf t = d := ⟨_, rfl⟩
  obtain ⟨a, ha⟩ : ∃ d, touchA u c t = d := ⟨_, rfl⟩
  obtain ⟨b, hb⟩ : ∃ d, touchB u c t = d := ⟨_, rfl⟩
  rw [hn, hd, hv] at D; rw [ha, hv] at DA; rw [hb, hv] at DB; rw [hd] at D0
  obtain ⟨d0, d1, v0, v1, v2⟩ := D
  obtain ⟨a0, a1⟩ := DA
  obtain ⟨b0, b1⟩ := DB
  obtain ⟨d2, d3⟩ := D0
  have q1 : d.tdiv 7 = v := by rw [Int.tdiv_eq_ediv_of_nonneg (by omega)]; exact v2
  have kd := fun w => pDay t w; rw [hd] at kd; replace kd := Lib.hid kd
  have kv := fun w => pWeek t w; rw [hv] at kv; replace kv := Lib.hid kv
  have kt := fun w => pTouch v_pl v_wy v_p1 v_p2 v_el v_cl v_ge v_al v_pb v_aa v_ab v_dr v_do v_wr v_nf v_nt v_ra v_di v_le v_fa v_ti u c t w; rw [ha, hb] at kt; replace kt := Lib.hid kt
  clear hd hv ha hb
  have h_s1 := Bx.new w [v_pl, v_wy, v_p1, v_p2, v_el, v_cl, v_ge, v_al, .int .i64 u, .int .i64 c, v_pb, v_aa, v_ab, v_dr, v_do, v_wr, v_nf, v_nt, v_ra, v_di, v_le, v_fa, v_ti] 35
  go_enter Try.func4, Try.ntmps4
  go_wp2_with fail
  refine (awake11 _).mono ?_
  rintro e w1 ⟨rfl, x1⟩
  have X1 := ((Ext.refl _).alloc _).trans x1
  have hs1 := h_s1.ext x1
  go_wp2_with fail
  refine (kd.out _).mono ?_
  rintro e w2 ⟨rfl, x2⟩
  have hs2 := hs1.ext x2; clear hs1
  have X2 := X1.trans x2
  go_wp2_with fail
  refine (kv.out _).mono ?_
  rintro e w3 ⟨rfl, x3⟩
  have hs3 := hs2.ext x3; clear hs2
  have X3 := X2.trans x3
  go_wp2_with (first | (refine load_box rfl 35 _ rfl _ rfl _ _ hs3 _ Try.underlying35 rfl (by kernel_rfl) ?_))
  refine (kt.out _).mono ?_
  rintro e w4 ⟨rfl, x4⟩
  have hs4 := hs3.ext x4; clear hs3
  have X4 := X3.trans x4
  obtain ⟨z1_0, z1_1, z1_2, z1_3, z1_4, z1_5, z1_6, z1_7, z1_8, z1_9, z1_10, z1_11, z1_12, z1_13, z1_14, z1_15, z1_16, z1_17, z1_18, z1_19, z1_20, z1_21, z1_22⟩ := suCells hs4
  go_wp2
  go_ret
  exact ⟨rfl, X4⟩

set_option maxRecDepth 100000 in
set_option maxHeartbeats 1000000 in
theorem days11_4 (v_pl v_wy v_p1 v_p2 v_el v_cl v_ge v_al v_pb v_aa v_ab v_dr v_do v_wr v_nf v_nt v_ra v_di v_le v_fa v_ti : Value) (u c t : Int) (g0 : 1 ≤ u) (g1 : 1 ≤ c) (g2 : u ≤ 3600) (g3 : c ≤ 57600) (w : World) : Calls Try.prog 4 #[.agg #[v_pl, v_wy, v_p1, v_p2, v_el, v_cl, v_ge, v_al, .int .i64 u, .int .i64 c, v_pb, v_aa, v_ab, v_dr, v_do, v_wr, v_nf, v_nt, v_ra, v_di, v_le, v_fa, v_ti], .int .i64 t] w (RetB w true) := by
  have D := day_facts t
  have DA := touchA_le u c t
  have DB := touchB_le u c t
  have D0 := dayOf_bd t
  obtain ⟨n, hn, n0, n1⟩ : ∃ n, min (max t 0) 32054399 = n ∧ 0 ≤ n ∧ n ≤ 32054399 := ⟨_, rfl, by omega, by omega⟩
  have b2 : touchB u c t - touchA u c t ≤ 1 := touch_near (by unfold touchBy; omega)
  obtain ⟨d, hd⟩ : ∃ d, dayOf t = d := ⟨_, rfl⟩
  obtain ⟨v, hv⟩ : ∃ d, weekOf t = d := ⟨_, rfl⟩
  obtain ⟨a, ha⟩ : ∃ d, touchA u c t = d := ⟨_, rfl⟩
  obtain ⟨b, hb⟩ : ∃ d, touchB u c t = d := ⟨_, rfl⟩
  rw [hn, hd, hv] at D; rw [ha, hv] at DA; rw [hb, hv] at DB; rw [hd] at D0; rw [ha, hb] at b2
  obtain ⟨d0, d1, v0, v1, v2⟩ := D
  obtain ⟨a0, a1⟩ := DA
  obtain ⟨b0, b1⟩ := DB
  obtain ⟨d2, d3⟩ := D0
  have q1 : d.tdiv 7 = v := by rw [Int.tdiv_eq_ediv_of_nonneg (by omega)]; exact v2
  have kd := fun w => pDay t w; rw [hd] at kd; replace kd := Lib.hid kd
  have kv := fun w => pWeek t w; rw [hv] at kv; replace kv := Lib.hid kv
  have kt := fun w => pTouch v_pl v_wy v_p1 v_p2 v_el v_cl v_ge v_al v_pb v_aa v_ab v_dr v_do v_wr v_nf v_nt v_ra v_di v_le v_fa v_ti u c t w; rw [ha, hb] at kt; replace kt := Lib.hid kt
  clear hd hv ha hb
  have h_s1 := Bx.new w [v_pl, v_wy, v_p1, v_p2, v_el, v_cl, v_ge, v_al, .int .i64 u, .int .i64 c, v_pb, v_aa, v_ab, v_dr, v_do, v_wr, v_nf, v_nt, v_ra, v_di, v_le, v_fa, v_ti] 35
  go_enter Try.func4, Try.ntmps4
  go_wp2_with fail
  refine (awake11 _).mono ?_
  rintro e w1 ⟨rfl, x1⟩
  have X1 := ((Ext.refl _).alloc _).trans x1
  have hs1 := h_s1.ext x1
  go_wp2_with fail
  refine (kd.out _).mono ?_
  rintro e w2 ⟨rfl, x2⟩
  have hs2 := hs1.ext x2; clear hs1
  have X2 := X1.trans x2
  go_wp2_with fail
  refine (kv.out _).mono ?_
  rintro e w3 ⟨rfl, x3⟩
  have hs3 := hs2.ext x3; clear hs2
  have X3 := X2.trans x3
  go_wp2_with (first | (refine load_box rfl 35 _ rfl _ rfl _ _ hs3 _ Try.underlying35 rfl (by kernel_rfl) ?_))
  refine (kt.out _).mono ?_
  rintro e w4 ⟨rfl, x4⟩
  have hs4 := hs3.ext x4; clear hs3
  have X4 := X3.trans x4
  obtain ⟨z1_0, z1_1, z1_2, z1_3, z1_4, z1_5, z1_6, z1_7, z1_8, z1_9, z1_10, z1_11, z1_12, z1_13, z1_14, z1_15, z1_16, z1_17, z1_18, z1_19, z1_20, z1_21, z1_22⟩ := suCells hs4
  go_wp2
  go_ret
  exact ⟨rfl, X4⟩

theorem days11 (s : Su) (h : Sh) (t : Int) (w : World) : Calls Try.prog 4 #[.agg (s.cells h).toArray, .int .i64 t] w (RetB w true) := by
  by_cases g0 : s.unit < 1
  · exact days11_0 _ _ _ _ _ _ _ _ _ _ _ _ _ _ _ _ _ _ _ _ _ s.unit s.cap t g0 w
  · by_cases g1 : s.cap < 1
    · exact days11_1 _ _ _ _ _ _ _ _ _ _ _ _ _ _ _ _ _ _ _ _ _ s.unit s.cap t (by omega) g1 w
    · by_cases g2 : 3600 < s.unit
      · exact days11_2 _ _ _ _ _ _ _ _ _ _ _ _ _ _ _ _ _ _ _ _ _ s.unit s.cap t (by omega) (by omega) g2 w
      · by_cases g3 : 57600 < s.cap
        · exact days11_3 _ _ _ _ _ _ _ _ _ _ _ _ _ _ _ _ _ _ _ _ _ s.unit s.cap t (by omega) (by omega) (by omega) g3 w
        · exact days11_4 _ _ _ _ _ _ _ _ _ _ _ _ _ _ _ _ _ _ _ _ _ s.unit s.cap t (by omega) (by omega) (by omega) (by omega) w
end Go.Proofs.Ytnhmibfgaoealaa
