/-
  A map of the call's own, keyed by keys.
  fixes.Touched's closure.
-/
import Derived.Test.YtmbjbbflhlndcaaQd3
import Derived.MapKept
import Derived.WideKeyRuns
import Derived.WideKeyEntry
import Derived.Maps.RangeRun
namespace Go.Proofs.Ytmbjbbflhlndcaa
open Go.RowKit BigFrame Go.ChangeMaps
set_option linter.unusedVariables false
set_option linter.unusedSimpArgs false
namespace KK
/-- The entries, in the order in which they came. -/
def entsK : Nat → List (Ky × Int) → List MapEntry
  | _, [] => []
  | i, (k, v) :: m => ⟨.agg (encK k).toArray, .int .i64 v, i⟩ :: entsK (i + 1) m
theorem entsK_len : ∀ (m : List (Ky × Int)) (i : Nat), (entsK i m).length = m.length
  | [], _ => rfl
  | (k, v) :: m, i => by simp [entsK, entsK_len m]
theorem entsK_get : ∀ (m : List (Ky × Int)) (i j : Nat), (entsK i m)[j]? = m[j]?.map fun p => ⟨.agg (encK p.1).toArray, .int .i64 p.2, i + j⟩
  | [], _, _ => rfl
  | (k, v) :: m, i, 0 => rfl
  | (k, v) :: m, i, j + 1 => by
    show (entsK (i + 1) m)[j]? = _
    rw [entsK_get m (i + 1) j, List.getElem?_cons_succ, show i + 1 + j = i + (j + 1) by omega]
theorem entsK_app : ∀ (m : List (Ky × Int)) (i : Nat) (k : Ky) (v : Int), entsK i (m ++ [(k, v)]) = entsK i m ++ [⟨.agg (encK k).toArray, .int .i64 v, i + m.length⟩]
  | [], i, k, v => rfl
  | (a, b) :: m, i, k, v => by
    show _ :: entsK (i + 1) (m ++ [(k, v)]) = _
    rw [entsK_app m (i + 1) k v, List.length_cons, show i + 1 + m.length = i + (m.length + 1) by omega]; rfl
theorem entsK_born (m : List (Ky × Int)) (i : Nat) : (entsK i m).map (·.born) = List.range' i m.length := by
  induction m generalizing i with
  | nil => rfl
  | cons p m ih => obtain ⟨k, v⟩ := p; simp [entsK, ih, List.range'_succ]
/-- Block r is this map. -/
def Mk (w : World) (r : Nat) (m : List (Ky × Int)) : Prop := w.heap[r]? = some (.map (entsK 0 m).toArray m.length)
theorem Mk.lt {w : World} {r : Nat} {m : List (Ky × Int)} (h : Mk w r m) : r < w.heap.size := (Array.getElem?_eq_some_iff.1 h).1
theorem Mk.ext {w w' : World} {r : Nat} {m : List (Ky × Int)} (h : Mk w r m) (x : Ext w w') : Mk w' r m := (x.block r h.lt).trans h
theorem Mk.ne {w : World} {r g : Nat} {m : List (Ky × Int)} {cs : List Value} {t : TypeId} (h : Mk w r m) (k : Bx w g cs t) : g ≠ r := by
  rintro rfl
  unfold Mk at h; unfold Bx at k
  rw [h] at k; cases k
theorem Mk.new (w : World) : Mk (w.alloc (.map #[] 0)) w.heap.size [] := heap_alloc_new w _
theorem Mk.set {w : World} {r : Nat} {m m' : List (Ky × Int)} (h : Mk w r m) : Mk (setBlock w r (.map (entsK 0 m').toArray m'.length)) r m' := by
  have := h.lt
  show (w.heap.setIfInBounds r _)[r]? = _
  rw [Array.getElem?_setIfInBounds, if_pos rfl, if_pos this]
/-- Nothing but block r has turned. -/
structure ExtR (r : Nat) (w w' : World) : Prop where
  os : w'.os = w.os
  tape : w'.tape = w.tape
  output : w'.output = w.output
  size : w.heap.size ≤ w'.heap.size
  block : ∀ k, k < w.heap.size → k ≠ r → w'.heap[k]? = w.heap[k]?
theorem ExtR.refl (r : Nat) (w : World) : ExtR r w w := ⟨rfl, rfl, rfl, Nat.le_refl _, fun _ _ _ => rfl⟩
theorem ExtR.trans {r : Nat} {a b c : World} (h : ExtR r a b) (k : ExtR r b c) : ExtR r a c := ⟨k.os.trans h.os, k.tape.trans h.tape, k.output.trans h.output, Nat.le_trans h.size k.size, fun i hi hr => (k.block i (Nat.lt_of_lt_of_le hi h.size) hr).trans (h.block i hi hr)⟩
theorem ExtR.of {r : Nat} {w w' : World} (h : Ext w w') : ExtR r w w' := ⟨h.os, h.tape, h.output, h.size, fun k hk _ => h.block k hk⟩
theorem ExtR.ext {r : Nat} {a w w' : World} (h : ExtR r w w') (x : Ext a w) (hr : a.heap.size ≤ r) : Ext a w' :=
  ⟨h.os.trans x.os, h.tape.trans x.tape, h.output.trans x.output, Nat.le_trans x.size h.size, fun k hk => (h.block k (Nat.lt_of_lt_of_le hk x.size) (by omega)).trans (x.block k hk)⟩
theorem ExtR.set (r : Nat) (w : World) (o : Obj) : ExtR r w (setBlock w r o) := ⟨rfl, rfl, rfl, by simp [setBlock], fun k _ hr => by
  show (w.heap.setIfInBounds r o)[k]? = _
  rw [Array.getElem?_setIfInBounds, if_neg (fun e => hr e.symm)]⟩
theorem ExtR.bx {r : Nat} {w w' : World} {g : Nat} {cs : List Value} {t : TypeId} (h : ExtR r w w') (k : Bx w g cs t) (hg : g ≠ r) : Bx w' g cs t := (h.block g k.lt hg).trans k
def findM (k : Ky) : List (Ky × Int) → Nat → Option (Nat × Int)
  | [], _ => none
  | (k', v) :: m, i => if k = k' then some (i, v) else findM k m (i + 1)
theorem findM_some {k : Ky} : ∀ {m : List (Ky × Int)} {i j : Nat} {v : Int}, findM k m i = some (j, v) → ∃ t, j = i + t ∧ m[t]? = some (k, v)
  | [], _, _, _, h => by cases h
  | (k', x) :: m, i, j, v, h => by
    unfold findM at h
    by_cases e : k = k'
    · rw [if_pos e] at h
      injection h with h; injection h with h1 h2
      exact ⟨0, by omega, by rw [e, h2]; rfl⟩
    · rw [if_neg e] at h
      obtain ⟨t, h1, h2⟩ := findM_some h
      exact ⟨t + 1, by omega, h2⟩
theorem findM_none {k : Ky} : ∀ {m : List (Ky × Int)} {i : Nat}, findM k m i = none → ∀ p ∈ m, p.1 ≠ k
  | [], _, _ => by simp
  | (k', x) :: m, i, h => by
    unfold findM at h
    by_cases e : k = k'
    · rw [if_pos e] at h; cases h
    · rw [if_neg e] at h
      intro p hp
      rcases List.mem_cons.1 hp with rfl | hp
      · exact fun h => e h.symm
      · exact findM_none h p hp
theorem findM_app {k : Ky} {v : Int} : ∀ {m : List (Ky × Int)} {i : Nat}, findM k m i = none → findM k (m ++ [(k, v)]) i = some (i + m.length, v)
  | [], i, _ => by show (if k = k then _ else _) = _; rw [if_pos rfl]; rfl
  | (k', x) :: m, i, h => by
    unfold findM at h
    by_cases e : k = k'
    · rw [if_pos e] at h; cases h
    · rw [if_neg e] at h
      show (if k = k' then _ else findM k (m ++ [(k, v)]) (i + 1)) = _
      rw [if_neg e, findM_app h, List.length_cons]
      congr 2; omega
def valM (k : Ky) (m : List (Ky × Int)) : Int := match findM k m 0 with | some (_, v) => v | none => 0
def slotM (k : Ky) (m : List (Ky × Int)) : Nat := match findM k m 0 with | some (i, _) => i | none => m.length
def laidM (k : Ky) (m : List (Ky × Int)) : List (Ky × Int) := match findM k m 0 with | some _ => m | none => m ++ [(k, 0)]
theorem laid_at (k : Ky) (m : List (Ky × Int)) : (laidM k m)[slotM k m]? = some (k, valM k m) := by
  unfold laidM slotM valM
  cases h : findM k m 0 with
  | none => simp
  | some p =>
    obtain ⟨i, v⟩ := p
    obtain ⟨t, h1, h2⟩ := findM_some h
    rw [Nat.zero_add] at h1; subst h1
    exact h2
theorem val_laid (k : Ky) (m : List (Ky × Int)) : valM k (laidM k m) = valM k m := by
  unfold laidM
  cases h : findM k m 0 with
  | none => unfold valM; simp only [h, findM_app h]
  | some p => rfl
/-- One more of a key. -/
def bumpM (m : List (Ky × Int)) (k : Ky) : List (Ky × Int) := (laidM k m).set (slotM k m) (k, IntKind.i64.wrap (valM k m + 1))
theorem slot_lt (k : Ky) (m : List (Ky × Int)) : slotM k m < (laidM k m).length := (List.getElem?_eq_some_iff.1 (laid_at k m)).1
theorem bump_keys (m : List (Ky × Int)) (k : Ky) : (bumpM m k).map (·.1) = if k ∈ m.map (·.1) then m.map (·.1) else m.map (·.1) ++ [k] := by
  unfold bumpM
  have ha := laid_at k m
  have e : ((laidM k m).set (slotM k m) (k, IntKind.i64.wrap (valM k m + 1))).map (·.1) = (laidM k m).map (·.1) := by
    rw [List.map_set]
    apply List.ext_getElem?
    intro t
    by_cases ht : slotM k m = t
    · subst ht
      rw [List.getElem?_set_self (by simpa using slot_lt k m), List.getElem?_map, ha]; rfl
    · rw [List.getElem?_set_ne ht]
  rw [e]
  unfold laidM
  cases h : findM k m 0 with
  | none =>
    have := findM_none h
    rw [if_neg]
    · simp
    · intro hk
      obtain ⟨p, hp, hk⟩ := List.mem_map.1 hk
      exact this p hp hk
  | some p =>
    obtain ⟨i, v⟩ := p
    obtain ⟨t, _, h2⟩ := findM_some h
    rw [if_pos]
    exact List.mem_map.2 ⟨_, List.mem_of_getElem? h2, rfl⟩
section
variable {w : World} {r : Nat} {m : List (Ky × Int)}
theorem run_ask (w : World) (k : Ky) : ∀ (m : List (Ky × Int)) (i j : Nat), (Instr.findAsking 106 (.agg (encK k).toArray) (entsK i m) j).run Try.prog w = .ok ((findM k m j).map fun p => (p.1, Value.int .i64 p.2)) w
  | [], _, _ => by simp [entsK, Instr.findAsking, findM]
  | (k', v) :: m, i, j => by
    have hq : (Op.equal 106 (.agg (encK k).toArray) (.agg (encK k').toArray)).run Try.prog w = .ok (decide (k = k')) w := eqInK k k' w
    unfold entsK Instr.findAsking findM
    simp only [Sem.run_bind, hq, Result.andThen_ok]
    by_cases e : k = k'
    · rw [decide_eq_true e, if_pos e]; rfl
    · rw [decide_eq_false e, if_neg e]
      simp only [Bool.false_eq_true, if_false]
      exact run_ask w k m (i + 1) (j + 1)
theorem run_find (w : World) (k : Ky) (m : List (Ky × Int)) : (Instr.findKey 106 (.agg (encK k).toArray) (entsK 0 m)).run Try.prog w = .ok ((findM k m 0).map fun p => (p.1, Value.int .i64 p.2)) w := by
  rw [run_findKey_eq w (by rw [Try.underlying106])]
  exact run_ask w k m 0 0
theorem run_check (em : Bool) (n : Nat) (k : Ky) (w : World) : (Instr.checkKey em (n + 2) 106 (.agg (encK k).toArray)).run Try.prog w = .ok () w := by
  have u3 := Try.underlying3
  have a3 := Try.isAgg3
  have hS := Try.underlying106
  have hc : ∀ (x : Int), (Instr.checkKey em (n + 1) 3 (.int .i64 x)).run Try.prog w = .ok () w := fun x => by
    unfold Instr.checkKey
    simp [underlying, u3, Result.andThen]
  have hp : ∀ i (x : Int), (encK k)[i]? = some (.int .i64 x) → (part 3 (encK k).toArray i).run Try.prog w = .ok (.int .i64 x) w := fun i x hx => by
    have : (encK k).toArray[i]? = some (.int .i64 x) := by simpa using hx
    simp [part, a3, this]
  have h0 := hp 0 k.worker rfl
  have h1 := hp 1 k.week rfl
  rw [Instr.checkKey]
  simp [run_underlying hS, h0, h1, hc, Result.andThen]
theorem run_look (h : Mk w r m) (k : Ky) : (Instr.lookup 111 (.map (some r)) (.agg (encK k).toArray) false).run Try.prog w = .ok (.int .i64 (valM k m)) w := by
  have hz : (zeroValue 3).run Try.prog w = .ok (.int .i64 0) w := by go_simp
  unfold valM
  cases hf : findM k m 0 with
  | none => simp [Instr.lookup, run_underlying Try.underlying111, MapKept.run_getObj_map h, run_check, run_find, hf, hz, Result.andThen]
  | some p => simp [Instr.lookup, run_underlying Try.underlying111, MapKept.run_getObj_map h, run_check, run_find, hf, Result.andThen]
theorem run_entryE (h : Mk w r m) (k : Ky) : (Instr.mapEntry 111 (.map (some r)) (.agg (encK k).toArray)).run Try.prog w = .ok (.tuple #[.int .i64 (valM k m), .int .i64 (slotM k m)]) (setBlock w r (.map (entsK 0 (laidM k m)).toArray (laidM k m).length)) := by
  have hz : (zeroValue 3).run Try.prog w = .ok (.int .i64 0) w := by go_simp
  unfold valM slotM laidM
  cases hf : findM k m 0 with
  | none =>
    simp [Instr.mapEntry, run_underlying Try.underlying111, MapKept.run_getObj_map h, run_check, run_find, hf, hz, MapKept.run_setObj_map _ h, Result.andThen, setBlock, goInt, entsK_app]
  | some p =>
    obtain ⟨i, v⟩ := p
    obtain ⟨t, h1, h2⟩ := findM_some hf
    rw [Nat.zero_add] at h1; subst h1
    have hg : (entsK 0 m)[i]? = some ⟨.agg (encK k).toArray, .int .i64 v, i⟩ := by rw [entsK_get, h2, Nat.zero_add]; rfl
    have hst : (Instr.keyThatStays (.agg (encK k).toArray) (.agg (encK k).toArray)).run Try.prog w = .ok (.agg (encK k).toArray) w := by
      have : Instr.sameBits 10000 (.agg (encK k).toArray) (.agg (encK k).toArray) = true := by
        simp [Instr.sameBits, encK]
      simp [Instr.keyThatStays, this]
    have hmod : (entsK 0 m).modify i (fun e => { e with key := .agg (encK k).toArray }) = entsK 0 m := by
      rw [Go.ChangeMaps.modify_eq_set _ _ _ _ hg]
      exact Go.WideElems.set_self _ _ _ hg
    simp [Instr.mapEntry, run_underlying Try.underlying111, MapKept.run_getObj_map h, run_check, run_find, hf, hg, hst, hmod, MapKept.run_setObj_map _ h, Result.andThen, setBlock, goInt]
theorem run_store (h : Mk w r m) {j : Nat} {p : Ky × Int} (hj : m[j]? = some p) (x : Int) : (Instr.entryStore 111 (.map (some r)) (.int .i64 j) (.int .i64 x)).run Try.prog w = .ok () (setBlock w r (.map (entsK 0 (m.set j (p.1, x))).toArray (m.set j (p.1, x)).length)) := by
  have hg : (entsK 0 m)[j]? = some ⟨.agg (encK p.1).toArray, .int .i64 p.2, j⟩ := by rw [entsK_get, hj, Nat.zero_add]; rfl
  have hidx : (entsK 0 m).findIdx? (fun e => ((e.born : Nat) : Int) == ((j : Nat) : Int)) = some j := by
    have := Go.WideElems.findIdx_born (l := entsK 0 m) (by rw [entsK_born]; exact List.nodup_range') hg
    exact this
  have hmod : (entsK 0 m).modify j (fun e => { e with val := .int .i64 x }) = entsK 0 (m.set j (p.1, x)) := by
    rw [Go.ChangeMaps.modify_eq_set _ _ _ _ hg]
    apply List.ext_getElem?
    intro t
    rw [entsK_get]
    by_cases ht : j = t
    · subst ht
      have h1 : j < m.length := (List.getElem?_eq_some_iff.1 hj).1
      rw [List.getElem?_set_self (by rw [entsK_len]; exact h1), List.getElem?_set_self h1, Nat.zero_add]; rfl
    · rw [List.getElem?_set_ne ht, List.getElem?_set_ne ht, entsK_get]
  simp [Instr.entryStore, MapKept.run_getObj_map h, asInt, asIntOf, hidx, hmod, MapKept.run_setObj_map _ h, Result.andThen, setBlock]
end
end KK
end Go.Proofs.Ytmbjbbflhlndcaa
namespace Go.Proofs.Ytmbjbbflhlndcaa
open Go.RowKit BigFrame Go.ChangeMaps
set_option linter.unusedVariables false
set_option linter.unusedSimpArgs false
namespace KK
section
variable {o : Oper} {a : Act} {w : World} {G : Act → World → Prop} {Q : Exit → Act → World → Prop} {r : Nat} {m : List (Ky × Int)}
theorem wp_look (x y : Operand) (ho : o.op = .lookup 111 x y false) (hx : a.eval x = .map (some r)) (k : Ky) (hy : a.eval y = .agg (encK k).toArray) (h : Mk w r m) (hG : G (a.put o.dst (.int .i64 (valM k m))) w) : o.wp Try.prog a w G Q := by
  unfold Oper.wp execOp
  simp only [ho, hx, hy, Sem.run_bind, run_look h k, Result.andThen_ok, Sem.run_pure]
  exact hG
theorem wp_entryE (x y : Operand) (ho : o.op = .mapEntry 111 x y) (hx : a.eval x = .map (some r)) (k : Ky) (hy : a.eval y = .agg (encK k).toArray) (h : Mk w r m)
    (hG : G (a.put o.dst (.tuple #[.int .i64 (valM k m), .int .i64 (slotM k m)])) (setBlock w r (.map (entsK 0 (laidM k m)).toArray (laidM k m).length))) : o.wp Try.prog a w G Q := by
  unfold Oper.wp execOp
  simp only [ho, hx, hy, Sem.run_bind, run_entryE h k, Result.andThen_ok, Sem.run_pure]
  exact hG
theorem wp_store (x y z : Operand) (ho : o.op = .entryStore 111 x y z) (hd : o.dst = none) (hx : a.eval x = .map (some r)) {j : Nat} (hy : a.eval y = .int .i64 j) {v : Int} (hz : a.eval z = .int .i64 v) (h : Mk w r m) {p : Ky × Int} (hj : m[j]? = some p) (m' : List (Ky × Int)) (hm : m.set j (p.1, v) = m')
    (hG : G a (setBlock w r (.map (entsK 0 m').toArray m'.length))) : o.wp Try.prog a w G Q := by
  subst hm
  unfold Oper.wp execOp
  simp only [ho, hx, hy, hz, Sem.run_bind, run_store h hj v, Result.andThen_ok, Sem.run_pure]
  simp only [Oper.upon, hd, Act.put]
  exact hG
end
set_option maxRecDepth 100000 in
set_option maxHeartbeats 4000000 in
theorem pTouch1 {cs : List Value} {u c : Int} (hs : SuUC cs u c) {w : World} {gs gm r : Nat} {m : List (Ky × Int)} (HS : Bx w gs cs 55) (HG : Bx w gm [.map (some r)] 111) (HM : Mk w r m) (e : Ev) :
    Calls Try.prog 80 #[.agg (encV e).toArray, .pointer (some ⟨gs, 0, none⟩), .pointer (some ⟨gm, 0, none⟩)] w fun en w' => en = .returned (.tuple #[]) ∧ Mk w' r ((weeksE u c e).foldl bumpM m) ∧ ExtR r w w' := by
  have hsr := HM.ne HS; have hgr := HM.ne HG
  have her : w.heap.size ≠ r := by have := HM.lt; omega
  obtain ⟨W0, hW0⟩ : ∃ W0, w.alloc (.cells (encV e).toArray 23) = W0 := ⟨_, rfl⟩
  have X0 : Hid (Ext w W0) := by rw [← hW0]; exact (Ext.refl w).alloc _
  have BS := Lib.hid (HS.ext X0.out); have BG := Lib.hid (HG.ext X0.out); have BM := Lib.hid (HM.ext X0.out)
  have BV : Hid (Bx W0 w.heap.size (encV e) 23) := by rw [← hW0]; exact Bx.new w _ _
  have hsz : (Try.prog.info? 55).map (·.size) = some cs.toArray.size := by rw [sizeS]; simp [hs.len]
  have kT := Lib.hid (fun W => pTouch hs e.at_ W)
  obtain ⟨ha0, hab, hb53, _⟩ := touch_bd u c e.at_
  obtain ⟨hN6, hN1, hN⟩ := touchN_le u c e.at_
  unfold weeksE
  obtain ⟨a, ea⟩ : ∃ a, touchA u c e.at_ = a := ⟨_, rfl⟩
  obtain ⟨b, eb⟩ : ∃ b, touchB u c e.at_ = b := ⟨_, rfl⟩
  obtain ⟨N, eN⟩ : ∃ N, touchN u c e.at_ = N := ⟨_, rfl⟩
  rw [ea, eb] at kT
  rw [ea] at ha0 hab hN
  rw [eb] at hab hb53 hN
  rw [eN] at hN hN6 hN1
  rw [ea, eN]
  replace hN := Lib.hid hN
  replace hsz := Lib.hid hsz; replace hW0 := Lib.hid hW0; replace hsr := Lib.hid hsr; replace hgr := Lib.hid hgr; replace her := Lib.hid her
  have c2 := BV.out.cell 2 _ rfl
  clear HS HG HM hs ea eb eN
  go_enter Try.func80, Try.ntmps80
  go_upto_region 1 with fail
  rw [hW0.out]
  go_wp2_with (first | (refine load_box (by rfl) 55 _ rfl gs rfl _ _ BS.out _ Try.underlying55 rfl hsz.out ?_) | fail)
  refine (kT.out _).mono ?_
  rintro e1 w1 ⟨rfl, x1⟩
  have X1 := Lib.hid (X0.out.trans x1); have BG1 := Lib.hid (BG.out.ext x1); have BV1 := Lib.hid (BV.out.ext x1); have BM1 := Lib.hid (BM.out.ext x1)
  clear x1 kT BS BV BG BM X0 hsz hW0 c2
  go_wp2_with fail
  go_loopw [6] (fun vi wr => ∃ j : Nat, j ≤ N ∧ vi = .int .i64 (a + j) ∧ Hid (Mk wr r ((keysOf e.worker a j).foldl bumpM m)) ∧ Hid (ExtR r w1 wr)) (fun vi _ => (b + 1 - intOf vi).toNat)
  case atStart => exact ⟨0, Nat.zero_le _, (by show Value.int .i64 a = _; congr 1; omega), BM1.out, ExtR.refl _ _⟩
  case round =>
    obtain ⟨j, hj, rfl, HM, XR⟩ := hrel
    have hN2 := hN.out
    obtain ⟨wq, hwq⟩ : ∃ W, wr = W := ⟨_, rfl⟩
    rw [hwq] at XR HM ⊢
    clear hwq
    by_cases hjN : j < N
    · have q1 : a + (j : Int) ≤ b := by omega
      have q2 : (0 : Int) ≤ a + (j : Int) := by omega
      obtain ⟨M, hM⟩ : ∃ M, (keysOf e.worker a j).foldl bumpM m = M := ⟨_, rfl⟩
      obtain ⟨k, hk⟩ : ∃ k : Ky, k = ⟨e.worker, a + (j : Int)⟩ := ⟨_, rfl⟩
      have hE : Hid ((keysOf e.worker a (j + 1)).foldl bumpM m = bumpM M k) := by
        show _ = _
        rw [keysOf_succ, List.foldl_append, hM, hk]; rfl
      rw [hM] at HM
      have hkv : Hid ((.agg #[.int .i64 e.worker, .int .i64 (a + (j : Int))] : Value) = .agg (encK k).toArray) := by show _ = _; rw [hk]; rfl
      clear hM hk hN2
      go_wp2_with fail
      obtain ⟨w8, hw8⟩ : ∃ W, wq.drewN 1 = W := ⟨_, rfl⟩
      have X28 : Ext wq w8 := by rw [← hw8]; exact (Ext.refl wq).drewN 1
      have XR8 := Lib.hid (XR.out.trans (ExtR.of X28))
      have BG8 := Lib.hid (XR8.out.bx BG1.out hgr.out)
      have BV8 := Lib.hid (XR8.out.bx BV1.out her.out)
      have BM8 := Lib.hid (HM.out.ext X28)
      clear X28 XR HM
      refine held_start (S := fun W => ExtR r w8 W) 10 rfl (by kernel_rfl) ?_
      rw [show ({ wq with drawn := wq.drawn + 1 } : World) = w8 from hw8]
      clear hw8
      refine held_takeV (i := 0) rfl (by kernel_rfl) (by kernel_rfl) (by kernel_rfl) (.map (some r)) rfl (fun W hW => by have cc := (hW.bx BG8.out hgr.out).cell 0 _ rfl; go_simp) (ExtR.refl r w8) _ (by simp [Act.put]; rfl) ?_
      refine held_takeV (i := 1) rfl (by kernel_rfl) (by kernel_rfl) (by kernel_rfl) (.pointer (some ⟨w.heap.size, 1, none⟩)) rfl (fun W _ => by go_simp) (ExtR.refl r w8) _ (by simp [Act.put]; rfl) ?_
      refine held_takeV (i := 2) rfl (by kernel_rfl) (by kernel_rfl) (by kernel_rfl) (.int .i64 e.worker) rfl (fun W hW => by have cc := (hW.bx BV8.out her.out).cell 1 _ rfl; go_simp) (ExtR.refl r w8) _ (by simp [Act.put]; rfl) ?_
      refine held_move (i := 3) rfl (by kernel_rfl) (by kernel_rfl) (by kernel_rfl) _ rfl rfl (ExtR.refl r w8) _ (by simp [Act.put]; rfl) ?_
      refine held_takeV (i := 4) rfl (by kernel_rfl) (by kernel_rfl) (by kernel_rfl) (.agg #[.int .i64 e.worker, .int .i64 (a + (j : Int))]) rfl (fun W hW => by go_simp) (ExtR.refl r w8) _ (by simp [Act.put]; rfl) ?_
      rw [hkv.out]
      have H1 := BM8.out.set (m' := laidM k M)
      have XA : ExtR r w8 (setBlock w8 r (.map (entsK 0 (laidM k M)).toArray (laidM k M).length)) := ExtR.set r w8 _
      refine held_two (i := 5) (j := 7) rfl rfl (by kernel_rfl) rfl rfl ?_ ?_
      · refine wp_look _ _ rfl rfl k rfl BM8.out ?_
        refine ⟨ExtR.refl r w8, ?_⟩
        refine held_takeV (i := 6) rfl (by kernel_rfl) (by kernel_rfl) (by kernel_rfl) (.int .i64 (IntKind.i64.wrap (valM k M + 1))) rfl (fun W _ => by go_simp) (ExtR.refl r w8) _ (by simp [Act.put]; rfl) ?_
        refine held_all (i := 7) rfl (by kernel_rfl) rfl ?_
        refine wp_entryE _ _ rfl rfl k rfl BM8.out ?_
        refine ⟨XA, ?_⟩
        refine held_takeV (i := 8) rfl (by kernel_rfl) (by kernel_rfl) (by kernel_rfl) (.int .i64 (slotM k M)) rfl (fun W _ => by go_simp) XA _ (by simp [Act.put]; rfl) ?_
        refine held_all (i := 9) rfl (by kernel_rfl) rfl ?_
        refine wp_store _ _ _ rfl rfl rfl (j := slotM k M) rfl (v := IntKind.i64.wrap (valM k M + 1)) rfl H1 (laid_at k M) (bumpM M k) rfl ?_
        have H9 : Mk (setBlock (setBlock w8 r (.map (entsK 0 (laidM k M)).toArray (laidM k M).length)) r (.map (entsK 0 (bumpM M k)).toArray (bumpM M k).length)) r (bumpM M k) := H1.set
        have X9 := XA.trans (ExtR.set r _ (.map (entsK 0 (bumpM M k)).toArray (bumpM M k).length))
        refine ⟨X9, ?_⟩
        refine held_done (by kernel_rfl) ?_ _
        have X9' := Lib.hid (XR8.out.trans X9)
        replace H9 := Lib.hid H9
        obtain ⟨W9, hW9⟩ : ∃ W, setBlock (setBlock w8 r (.map (entsK 0 (laidM k M)).toArray (laidM k M).length)) r (.map (entsK 0 (bumpM M k)).toArray (bumpM M k).length) = W := ⟨_, rfl⟩
        rw [hW9] at H9 X9' ⊢
        rw [← hE.out] at H9
        clear hW9 X9 XA H1
        go_wp2_with fail
        exact ⟨⟨j + 1, by omega, by first | rfl | go_num | (congr 1; push_cast; omega), H9, X9'⟩, by simp [intOf]; omega⟩
      · refine wp_entryE _ _ rfl rfl k rfl BM8.out ?_
        refine ⟨XA, ?_⟩
        refine held_takeV (i := 8) rfl (by kernel_rfl) (by kernel_rfl) (by kernel_rfl) (.int .i64 (slotM k M)) rfl (fun W _ => by go_simp) XA _ (by simp [Act.put]; rfl) ?_
        refine held_all (i := 5) rfl (by kernel_rfl) rfl ?_
        refine wp_look _ _ rfl rfl k rfl H1 ?_
        rw [val_laid]
        refine ⟨XA, ?_⟩
        refine held_takeV (i := 6) rfl (by kernel_rfl) (by kernel_rfl) (by kernel_rfl) (.int .i64 (IntKind.i64.wrap (valM k M + 1))) rfl (fun W _ => by go_simp) XA _ (by simp [Act.put]; rfl) ?_
        refine held_all (i := 9) rfl (by kernel_rfl) rfl ?_
        refine wp_store _ _ _ rfl rfl rfl (j := slotM k M) rfl (v := IntKind.i64.wrap (valM k M + 1)) rfl H1 (laid_at k M) (bumpM M k) rfl ?_
        have H9 : Mk (setBlock (setBlock w8 r (.map (entsK 0 (laidM k M)).toArray (laidM k M).length)) r (.map (entsK 0 (bumpM M k)).toArray (bumpM M k).length)) r (bumpM M k) := H1.set
        have X9 := XA.trans (ExtR.set r _ (.map (entsK 0 (bumpM M k)).toArray (bumpM M k).length))
        refine ⟨X9, ?_⟩
        refine held_done (by kernel_rfl) ?_ _
        have X9' := Lib.hid (XR8.out.trans X9)
        replace H9 := Lib.hid H9
        obtain ⟨W9, hW9⟩ : ∃ W, setBlock (setBlock w8 r (.map (entsK 0 (laidM k M)).toArray (laidM k M).length)) r (.map (entsK 0 (bumpM M k)).toArray (bumpM M k).length) = W := ⟨_, rfl⟩
        rw [hW9] at H9 X9' ⊢
        rw [← hE.out] at H9
        clear hW9 X9 XA H1
        go_wp2_with fail
        exact ⟨⟨j + 1, by omega, by first | rfl | go_num | (congr 1; push_cast; omega), H9, X9'⟩, by simp [intOf]; omega⟩
    · obtain rfl : j = N := by omega
      have q1 : ¬ a + (j : Int) ≤ b := by omega
      have q1d : decide (a + (j : Int) ≤ b) = false := decide_eq_false q1
      have XF := Lib.hid ((ExtR.of X1.out).trans XR.out)
      clear X1 XR BM1 BG1 BV1 hN2
      go_wp2_with fail
      go_end0
      exact ⟨rfl, HM.out, XF.out⟩
end KK
end Go.Proofs.Ytmbjbbflhlndcaa
