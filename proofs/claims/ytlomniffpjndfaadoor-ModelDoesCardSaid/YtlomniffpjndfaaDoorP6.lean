/-
  live: some answers that the document gives, of the program's model.
  A law whose row lists package-level variables: from the walk to the row's inner statement. The walk is handed the world's shape and the condition on the listed variables.
-/
import Derived.Test.YtlomniffpjndfaaDoorP4
import Derived.Test.YtlomniffpjndfaaDoorP5
import Derived.Test.YtlomniffpjndfaaDoorMdV
import Derived.Test.YtlomniffpjndfaaDoorRow
import Derived.Lay
import Derived.HandedShaped
import Derived.Lib.LaidTab
import Derived.Stop.Joined
namespace Go.Proofs.YtlomniffpjndfaaDoor
open Go.RowKit Go.ChangeMaps Go.Maps Go.WideShapes Go.WideMaps Go.WideElems Go.MapKept Go.ChangeShapes

abbrev kA : ByteArray := ⟨#[97]⟩
abbrev hiB : ByteArray := ⟨#[104, 105]⟩
abbrev kp_up {X : List Nat} {w a b : World} (h : Kp [] w a) (k : Kp X a b) (hX : ∀ i ∈ X, w.heap.size ≤ i) : Kp [] w b := h.step k (fun i hi hm => by have := hX i hm; omega)
def ls1 : Mdl := [(kA, (hiB, false))]
def ls2 : Mdl := [(kA, (E0, true))]
theorem sh0 : Short [] := fun _ h => by cases h
theorem sh1 : Short ls1 := fun p h => by simp only [ls1, List.mem_singleton] at h; subst h; decide
theorem sh2 : Short ls2 := fun p h => by simp only [ls2, List.mem_singleton] at h; subst h; decide
theorem la1 : Mdl.answer sumF [] 0 kA hiB = ⟨0, E0, []⟩ := by decide +kernel
theorem la2 : Mdl.answer sumF ls1 1 kA E0 = ⟨0, hiB, []⟩ := by decide +kernel
theorem la3 : Mdl.answer sumF ls1 2 kA E0 = ⟨0, E0, []⟩ := by decide +kernel
theorem la4 : Mdl.answer sumF ls2 0 kA E0 = ⟨13, E0, []⟩ := by decide +kernel
theorem la5 : Mdl.answer sumF ls2 1 kA E0 = ⟨9, E0, []⟩ := by decide +kernel
theorem la6 : Mdl.answer sumF ls2 9 E0 E0 = ⟨1, E0, []⟩ := by decide +kernel
theorem lm1 : Mdl.after [] 0 kA hiB = ls1 := by decide +kernel
theorem lm2 : Mdl.after ls1 1 kA E0 = ls1 := by decide +kernel
theorem lm3 : Mdl.after ls1 2 kA E0 = ls2 := by decide +kernel
theorem lm4 : Mdl.after ls2 0 kA E0 = ls2 := by decide +kernel
theorem lm5 : Mdl.after ls2 1 kA E0 = ls2 := by decide +kernel
theorem lm6 : Mdl.after ls2 9 E0 E0 = ls2 := by decide +kernel
theorem lt1 : SB ls1.state = ⟨#[97, 61, 54, 56, 54, 57, 32]⟩ := by decide +kernel
theorem lt2 : SB ls2.state = ⟨#[97, 33, 32]⟩ := by decide +kernel
theorem mdo1 {mb eb : Nat} {M M' : Mdl} (hs : Short M) (hz : M.length ≤ 1000) (kind : Int) (k v : ByteArray) (code : Int) (val : ByteArray) (ha : M.answer sumF kind k v = ⟨code, val, []⟩) (hm : M.after kind k v = M') (hk : k.size < 16384) (hv : v.size < 16384) (w : World) (h : MdAt mb eb w M) (htab : Lib.TabIs Tryd.prog w "internal/strconv.uint64pow10" .u64 Lib.pow10Tab) :
    Calls Tryd.prog 12 #[Md.p mb, ReqV kind k v] w fun e w' => (∃ av cv, e = .returned (RespV code val (.slice av 0 cv))) ∧ MdAt mb eb w' M' ∧ Kp [eb] w w' := by
  refine (mdo sum_ok hs hz kind k v hk hv w h htab).mono ?_
  rintro e w' ⟨x, rfl, ⟨av, cv, rfl, -⟩, hM, kk⟩
  rw [ha]
  exact ⟨⟨av, cv, rfl⟩, hm ▸ hM, kk⟩
set_option maxHeartbeats 4000000 in
set_option maxRecDepth 100000 in
theorem live_true (w : World) (htab : Lib.TabIs Tryd.prog w "internal/strconv.uint64pow10" .u64 Lib.pow10Tab) : Calls Tryd.prog 8 #[] w fun e w' => e = .returned (.bool true) ∧ Kp [] w w' := by
  go_enter Tryd.func8, Tryd.ntmps8
  go_wp2_with fail
  refine (mnew w).mono ?_
  rintro e w1 ⟨mb, eb, rfl, hM, hK, hmb, heb⟩
  go_wp2_with fail
  refine (mdo1 sh0 (by decide) 0 kA hiB _ _ la1 lm1 (by decide) (by decide) _ hM (htab.keep hK)).mono ?_
  rintro e v1 ⟨⟨av1, cv1, rfl⟩, hM2, k2⟩
  replace hM := hM2
  clear hM2
  replace hK := kp_up hK k2 (by simp only [List.mem_singleton]; omega)
  clear k2
  go_wp2_with fail
  obtain ⟨u1, hu⟩ : ∃ u, u = v1.alloc (.cells #[.int .i64 0, .string E0, .slice av1 0 cv1] 37) := ⟨_, rfl⟩
  have ku : Kp [] v1 u1 := hu ▸ (Kp.refl _ _).alloc _
  obtain ⟨p1, hp⟩ : ∃ p, p = v1.heap.size := ⟨_, rfl⟩
  have b1 : u1.heap[p1]? = some (.cells #[.int .i64 0, .string E0, .slice av1 0 cv1] 37 (0, 0)) := by rw [hu, hp]; exact block_new _ _
  have g1 : eb < p1 := by have := hM.lts; omega
  replace hM := hM.keep0 ku
  replace hK := hK.trans ku
  rw [← hu, ← hp]
  clear ku hu hp
  refine (mdo1 sh1 (by decide) 1 kA E0 _ _ la2 lm2 (by decide) (by decide) _ hM (htab.keep hK)).mono ?_
  rintro e v2 ⟨⟨av2, cv2, rfl⟩, hM2, k2⟩
  replace hM := hM2
  clear hM2
  replace b1 := (k2.block _ (lt_of_block b1) (by simp only [List.mem_singleton]; omega)).trans b1
  replace hK := kp_up hK k2 (by simp only [List.mem_singleton]; omega)
  clear k2
  go_wp2_with fail
  obtain ⟨u2, hu⟩ : ∃ u, u = v2.alloc (.cells #[.int .i64 0, .string hiB, .slice av2 0 cv2] 37) := ⟨_, rfl⟩
  have ku : Kp [] v2 u2 := hu ▸ (Kp.refl _ _).alloc _
  obtain ⟨p2, hp⟩ : ∃ p, p = v2.heap.size := ⟨_, rfl⟩
  have b2 : u2.heap[p2]? = some (.cells #[.int .i64 0, .string hiB, .slice av2 0 cv2] 37 (0, 0)) := by rw [hu, hp]; exact block_new _ _
  have g2 : eb < p2 := by have := hM.lts; omega
  replace hM := hM.keep0 ku
  replace hK := hK.trans ku
  rw [← hu, ← hp]
  replace b1 := (ku.block _ (lt_of_block b1) (by simp)).trans b1
  clear ku hu hp
  refine (mstate sh1 (by decide) _ hM).mono ?_
  rintro e s1 ⟨rfl, k2⟩
  rw [lt1]
  replace hM := hM.keep0 k2
  replace hK := hK.trans k2
  replace b1 := (k2.block _ (lt_of_block b1) (by simp)).trans b1
  replace b2 := (k2.block _ (lt_of_block b2) (by simp)).trans b2
  clear k2
  go_wp2_with fail
  refine (mdo1 sh1 (by decide) 2 kA E0 _ _ la3 lm3 (by decide) (by decide) _ hM (htab.keep hK)).mono ?_
  rintro e v3 ⟨⟨av3, cv3, rfl⟩, hM2, k2⟩
  replace hM := hM2
  clear hM2
  replace b1 := (k2.block _ (lt_of_block b1) (by simp only [List.mem_singleton]; omega)).trans b1
  replace b2 := (k2.block _ (lt_of_block b2) (by simp only [List.mem_singleton]; omega)).trans b2
  replace hK := kp_up hK k2 (by simp only [List.mem_singleton]; omega)
  clear k2
  go_wp2_with fail
  obtain ⟨u3, hu⟩ : ∃ u, u = v3.alloc (.cells #[.int .i64 0, .string E0, .slice av3 0 cv3] 37) := ⟨_, rfl⟩
  have ku : Kp [] v3 u3 := hu ▸ (Kp.refl _ _).alloc _
  obtain ⟨p3, hp⟩ : ∃ p, p = v3.heap.size := ⟨_, rfl⟩
  have b3 : u3.heap[p3]? = some (.cells #[.int .i64 0, .string E0, .slice av3 0 cv3] 37 (0, 0)) := by rw [hu, hp]; exact block_new _ _
  have g3 : eb < p3 := by have := hM.lts; omega
  replace hM := hM.keep0 ku
  replace hK := hK.trans ku
  rw [← hu, ← hp]
  replace b1 := (ku.block _ (lt_of_block b1) (by simp)).trans b1
  replace b2 := (ku.block _ (lt_of_block b2) (by simp)).trans b2
  clear ku hu hp
  refine (mdo1 sh2 (by decide) 0 kA E0 _ _ la4 lm4 (by decide) (by decide) _ hM (htab.keep hK)).mono ?_
  rintro e v4 ⟨⟨av4, cv4, rfl⟩, hM2, k2⟩
  replace hM := hM2
  clear hM2
  replace b1 := (k2.block _ (lt_of_block b1) (by simp only [List.mem_singleton]; omega)).trans b1
  replace b2 := (k2.block _ (lt_of_block b2) (by simp only [List.mem_singleton]; omega)).trans b2
  replace b3 := (k2.block _ (lt_of_block b3) (by simp only [List.mem_singleton]; omega)).trans b3
  replace hK := kp_up hK k2 (by simp only [List.mem_singleton]; omega)
  clear k2
  go_wp2_with fail
  obtain ⟨u4, hu⟩ : ∃ u, u = v4.alloc (.cells #[.int .i64 13, .string E0, .slice av4 0 cv4] 37) := ⟨_, rfl⟩
  have ku : Kp [] v4 u4 := hu ▸ (Kp.refl _ _).alloc _
  obtain ⟨p4, hp⟩ : ∃ p, p = v4.heap.size := ⟨_, rfl⟩
  have b4 : u4.heap[p4]? = some (.cells #[.int .i64 13, .string E0, .slice av4 0 cv4] 37 (0, 0)) := by rw [hu, hp]; exact block_new _ _
  have g4 : eb < p4 := by have := hM.lts; omega
  replace hM := hM.keep0 ku
  replace hK := hK.trans ku
  rw [← hu, ← hp]
  replace b1 := (ku.block _ (lt_of_block b1) (by simp)).trans b1
  replace b2 := (ku.block _ (lt_of_block b2) (by simp)).trans b2
  replace b3 := (ku.block _ (lt_of_block b3) (by simp)).trans b3
  clear ku hu hp
  refine (mdo1 sh2 (by decide) 1 kA E0 _ _ la5 lm5 (by decide) (by decide) _ hM (htab.keep hK)).mono ?_
  rintro e v5 ⟨⟨av5, cv5, rfl⟩, hM2, k2⟩
  replace hM := hM2
  clear hM2
  replace b1 := (k2.block _ (lt_of_block b1) (by simp only [List.mem_singleton]; omega)).trans b1
  replace b2 := (k2.block _ (lt_of_block b2) (by simp only [List.mem_singleton]; omega)).trans b2
  replace b3 := (k2.block _ (lt_of_block b3) (by simp only [List.mem_singleton]; omega)).trans b3
  replace b4 := (k2.block _ (lt_of_block b4) (by simp only [List.mem_singleton]; omega)).trans b4
  replace hK := kp_up hK k2 (by simp only [List.mem_singleton]; omega)
  clear k2
  go_wp2_with fail
  obtain ⟨u5, hu⟩ : ∃ u, u = v5.alloc (.cells #[.int .i64 9, .string E0, .slice av5 0 cv5] 37) := ⟨_, rfl⟩
  have ku : Kp [] v5 u5 := hu ▸ (Kp.refl _ _).alloc _
  obtain ⟨p5, hp⟩ : ∃ p, p = v5.heap.size := ⟨_, rfl⟩
  have b5 : u5.heap[p5]? = some (.cells #[.int .i64 9, .string E0, .slice av5 0 cv5] 37 (0, 0)) := by rw [hu, hp]; exact block_new _ _
  have g5 : eb < p5 := by have := hM.lts; omega
  replace hM := hM.keep0 ku
  replace hK := hK.trans ku
  rw [← hu, ← hp]
  replace b1 := (ku.block _ (lt_of_block b1) (by simp)).trans b1
  replace b2 := (ku.block _ (lt_of_block b2) (by simp)).trans b2
  replace b3 := (ku.block _ (lt_of_block b3) (by simp)).trans b3
  replace b4 := (ku.block _ (lt_of_block b4) (by simp)).trans b4
  clear ku hu hp
  refine (mdo1 sh2 (by decide) 9 E0 E0 _ _ la6 lm6 (by decide) (by decide) _ hM (htab.keep hK)).mono ?_
  rintro e v6 ⟨⟨av6, cv6, rfl⟩, hM2, k2⟩
  replace hM := hM2
  clear hM2
  replace b1 := (k2.block _ (lt_of_block b1) (by simp only [List.mem_singleton]; omega)).trans b1
  replace b2 := (k2.block _ (lt_of_block b2) (by simp only [List.mem_singleton]; omega)).trans b2
  replace b3 := (k2.block _ (lt_of_block b3) (by simp only [List.mem_singleton]; omega)).trans b3
  replace b4 := (k2.block _ (lt_of_block b4) (by simp only [List.mem_singleton]; omega)).trans b4
  replace b5 := (k2.block _ (lt_of_block b5) (by simp only [List.mem_singleton]; omega)).trans b5
  replace hK := kp_up hK k2 (by simp only [List.mem_singleton]; omega)
  clear k2
  have x1 := Kp.cellAt (X := []) (cell_of_cells (o := 0) (v := .int .i64 0) b1 rfl) (by simp)
  have y1 := Kp.cellAt (X := []) (cell_of_cells (o := 1) (v := .string E0) b1 rfl) (by simp)
  have x2 := Kp.cellAt (X := []) (cell_of_cells (o := 0) (v := .int .i64 0) b2 rfl) (by simp)
  have y2 := Kp.cellAt (X := []) (cell_of_cells (o := 1) (v := .string hiB) b2 rfl) (by simp)
  have x3 := Kp.cellAt (X := []) (cell_of_cells (o := 0) (v := .int .i64 0) b3 rfl) (by simp)
  have y3 := Kp.cellAt (X := []) (cell_of_cells (o := 1) (v := .string E0) b3 rfl) (by simp)
  have x4 := Kp.cellAt (X := []) (cell_of_cells (o := 0) (v := .int .i64 13) b4 rfl) (by simp)
  have y4 := Kp.cellAt (X := []) (cell_of_cells (o := 1) (v := .string E0) b4 rfl) (by simp)
  have x5 := Kp.cellAt (X := []) (cell_of_cells (o := 0) (v := .int .i64 9) b5 rfl) (by simp)
  have y5 := Kp.cellAt (X := []) (cell_of_cells (o := 1) (v := .string E0) b5 rfl) (by simp)
  have hk6 : Kp [] v6 (v6.alloc (.cells #[.int .i64 1, .string E0, .slice av6 0 cv6] 37)) := (Kp.refl _ _).alloc _
  go_wp2_with fail
  obtain ⟨u6, hu⟩ : ∃ u, u = v6.alloc (.cells #[.int .i64 1, .string E0, .slice av6 0 cv6] 37) := ⟨_, rfl⟩
  have ku : Kp [] v6 u6 := hu ▸ (Kp.refl _ _).alloc _
  obtain ⟨p6, hp⟩ : ∃ p, p = v6.heap.size := ⟨_, rfl⟩
  have b6 : u6.heap[p6]? = some (.cells #[.int .i64 1, .string E0, .slice av6 0 cv6] 37 (0, 0)) := by rw [hu, hp]; exact block_new _ _
  have g6 : eb < p6 := by have := hM.lts; omega
  replace hM := hM.keep0 ku
  replace hK := hK.trans ku
  rw [← hu, ← hp]
  replace b1 := (ku.block _ (lt_of_block b1) (by simp)).trans b1
  replace b2 := (ku.block _ (lt_of_block b2) (by simp)).trans b2
  replace b3 := (ku.block _ (lt_of_block b3) (by simp)).trans b3
  replace b4 := (ku.block _ (lt_of_block b4) (by simp)).trans b4
  replace b5 := (ku.block _ (lt_of_block b5) (by simp)).trans b5
  clear ku hu hp
  refine (mstate sh2 (by decide) _ hM).mono ?_
  rintro e s2 ⟨rfl, k2⟩
  rw [lt2]
  replace hM := hM.keep0 k2
  replace hK := hK.trans k2
  clear k2
  go_wp2_with fail
  refine (msilent 8 _).mono ?_
  rintro e w8 ⟨rfl, k2⟩
  replace hK := hK.trans k2
  clear k2
  rw [show silentB 8 = true from rfl]
  go_wp2_with fail
  refine (msilent 9 _).mono ?_
  rintro e w9 ⟨rfl, k2⟩
  replace hK := hK.trans k2
  clear k2
  rw [show silentB 9 = false from rfl]
  go_wp2_with fail
  go_ret
  exact ⟨rfl, hK⟩
end Go.Proofs.YtlomniffpjndfaaDoor

namespace Go.Proofs.YtlomniffpjndfaaDoor
open Go.ChangeShapes Go.WideShapes Go.ChangeAt Go.RowKit Go.WideElems

theorem returns_and_shaped {H : Type} {enc : TypeId × Value → H} {a : Assume} {C : Checked} {os : Os} {f : FuncId} {fn : Func} {s : ChangeSpec} {conds : List PathCond} {apart fresh handsOn again : Bool} {X : World → Array Value → Prop}
    (hX : ∀ (w w' : World) (args : Array Value), w.heap = w'.heap → X w args → X w' args)
    (own : ownKnob C.prog.godebug = none) (started : os.Started) (noInit : C.prog.inits.idxOf? f = none) (hfn : C.prog.funcs[f]? = some fn)
    (witness : ∃ (w : World) (tape : Tape) (i : Input), w.os = os ∧ (w.forCall tape i).Shaped C.prog ∧ i.vars = [] ∧ Input.okWide C.prog (w.forCall tape i) .any w.heap.size f i ∧
      ((s.pre enc C.prog fn conds apart (w.forCall tape i).memory i.args ∧ X (w.forCall tape i).memory i.args) ∧ sizedMet enc C.prog fn (OpenSpec.ofChange s) apart (w.forCall tape i).memory i.args) ∧ a.holds C.prog (lone (Frame.enter C.prog f i.args .normal) [] (w.forCall tape i)))
    (contract : ∀ (W : World) (base : Nat) (args : Array Value) (ds gs : List (DataW H)) (before : List MemPlace),
      (∀ (j : Nat) t v, fn.params[j]? = some t → args[j]? = some v → Value.okWide C.prog W .any base t v) →
      DataW.Whole enc C.prog fn.params.toList s.vars apart W args.toList ds gs before → X W args → W.ShapedOpen C.prog →
      Calls C.prog f args W fun e W' => ∃ v, e = .returned v ∧ s.post enc C.prog fn apart fresh handsOn again W args v W') :
    ReturnsInHanded a C os f .any (fun w args => (s.pre enc C.prog fn conds apart w args ∧ X w args) ∧ sizedMet enc C.prog fn (OpenSpec.ofChange s) apart w args) (s.post enc C.prog fn apart fresh handsOn again) := by
  refine returnsInHanded_of_calls own started noInit witness ?_
  intro w tape i _ hsh _ hok hpre hholds
  obtain ⟨_, _, _, fn', hfn', _, _, _, _, hval⟩ := hok
  have e : fn' = fn := Option.some.inj (hfn'.symm.trans hfn)
  subst e
  obtain ⟨⟨⟨ds, gs, before, hw, hc⟩, hx⟩, hz⟩ := hpre
  have hw' := DataW.Whole.of_heap (w' := w.forCall tape i) (by rfl) hw
  refine (contract (w.forCall tape i) w.heap.size i.args ds gs before hval hw' (hX _ _ _ (by rfl) hx) hsh).mono fun e W' ⟨v, he, hp⟩ => ?_
  subst he
  exact ChangeSpec.post_blind hp

theorem shaped_keep {P : Program} {w w' : World} (h : w.ShapedOpen P) (k : Kp [] w w') : w'.ShapedOpen P :=
  h.keptBut (may := fun p => p ∈ ([] : List MemPlace)) (World.keptBut_mono (fun p hp => hp) (k.below.frame (fun p => p ∈ ([] : List MemPlace)))) (fun _ hp => by cases hp)

set_option maxRecDepth 100000 in
theorem law_laid {f : FuncId} {fn : Func} {tb : TypeId} (s : ChangeSpec) (laid : List (String × DataW Unit)) (hf : Tryd.prog.funcs[f]? = some fn) (hinits : Tryd.checked.prog.inits.idxOf? f = none) (htb : Tryd.prog.underlying tb = some .bool) (hres : fn.resultTypes = #[tb])
    (hts : ∀ t ∈ fn.params.toList, Tryd.prog.readableRec t = true ∧ t < Tryd.prog.types.size) (hvars : s.vars = [])
    (hspec : ∀ (H : Type) (ds : List (DataW H)), ds.length = fn.params.toList.length → (s.fn H (ds ++ [])).results = [.lit (.bool true)] ∧ (s.fn H (ds ++ [])).args = ds ∧ (s.fn H (ds ++ [])).vars = [])
    (walk : ∀ (W : World) (vs : List Value), RdAll Tryd.prog W fn.params.toList vs → W.ShapedOpen Tryd.prog → laidMetH Tryd.prog laid W → Calls Tryd.prog f vs.toArray W fun e W' => e = .returned (.bool true) ∧ Kp [] W W')
    (os : Os) (started : os.Started) (H : Type) (enc : TypeId × Value → H)
    (hwit : ∃ (w : World) (tape : Tape) (i : Input), w.os = os ∧ (w.forCall tape i).Shaped Tryd.checked.prog ∧ i.vars = [] ∧ Input.okWide Tryd.checked.prog (w.forCall tape i) .any w.heap.size f i ∧
      ((s.pre enc Tryd.checked.prog fn [] false (w.forCall tape i).memory i.args ∧ laidMetH Tryd.prog laid (w.forCall tape i).memory) ∧ sizedMet enc Tryd.checked.prog fn (OpenSpec.ofChange s) false (w.forCall tape i).memory i.args) ∧ ({} : Assume).holds Tryd.checked.prog (lone (Frame.enter Tryd.checked.prog f i.args .normal) [] (w.forCall tape i))) :
    ReturnsInHanded {} Tryd.checked os f .any (fun w args => (s.pre enc Tryd.prog fn [] false w args ∧ laidMetH Tryd.prog laid w) ∧ sizedMet enc Tryd.prog fn (OpenSpec.ofChange s) false w args) (s.post enc Tryd.prog fn false true false false) := by
  refine returns_and_shaped (C := Tryd.checked) (X := fun w _ => laidMetH Tryd.prog laid w) (fun _ _ _ hh h => h.of_heap hh) Tryd.own started hinits hf hwit ?_
  intro W base args ds gs before hval0 hW hL hsh
  have hval : ∀ (j : Nat) t v, fn.params[j]? = some t → args[j]? = some v → Value.okWide Tryd.prog W .any base t v := hval0
  have hW' : DataW.Whole enc Tryd.prog fn.params.toList s.vars false W args.toList ds gs before := hW
  have hlt : ∀ p ∈ before, p.block < W.heap.size := fun p hp => hW'.lt p hp
  obtain ⟨p, q, hA0, hV, hpq, hfz, hnd⟩ := hW
  have hA : DataW.TrodAll enc Tryd.prog W 0 (fun _ => true) true fn.params.toList args.toList ds p := hA0
  have hV' : DataW.TrodVars enc Tryd.prog W (fun _ => true) s.vars gs q := hV
  rw [hvars] at hV'
  obtain ⟨rfl, rfl⟩ := trodVars_none hV'
  rw [List.append_nil] at hpq
  subst hpq
  obtain ⟨hr, hlen⟩ := rdAll_of (b0 := base) _ _ _ _ hA (fun j t v h1 h2 => hval j t v (by simpa using h1) (by simpa using h2))
  obtain ⟨s1, s2, s3⟩ := hspec H ds hlen
  have hargs : args = args.toList.toArray := by simp
  rw [hargs]
  refine (walk W args.toList hr hsh hL).mono ?_
  rintro e W' ⟨rfl, hk⟩
  refine ⟨.bool true, rfl, ?_⟩
  have hb := hk.below
  refine post_of_kp (P := Tryd.prog) (pa := before) (pv := []) hW' ?_ ?_ ?_ (by simp) hb ?_
  · intro b sp hd
    rw [s1, hres]
    exact trodAll_mk1 (shut_bool htb true)
  · intro sp hsp
    rw [s2]
    exact trodAll_stays Tryd.laidOut hb _ _ _ _ hts hA hlt hsp
  · intro sp _
    rw [s3, hvars]
    exact rfl
  · exact ok_one hres rfl (okWide_bool_mk htb true)
end Go.Proofs.YtlomniffpjndfaaDoor
