/-
  SpaceNil: a space that is none has nothing: for every place the law returns true.
  Conditions: none beyond the row's own.
-/
import Derived.Test.YtmegcmjklealbaaSpcL
import Derived.Test.YtmegcmjklealbaaRow
namespace Go.Proofs.Ytmegcmjklealbaa
open Go.ChangeShapes Go.WideShapes Go.ChangeAt Go.RowKit Go.WideElems

theorem loc_of {W : World} {cs : List Value} (h : Rd Try.prog W 31 cs) : ∃ d s, cs = [.int .i64 d, .int .i64 s] := by
  obtain ⟨hl, hf⟩ := rd_struct Try.underlying31 h
  have h2 : Try.prog.cellsOf 31 = 2 := by kernel_rfl
  have h1 : Try.prog.cellsOf 3 = 1 := by kernel_rfl
  rw [h2] at hl
  match cs, hl with
  | [a, b], _ =>
    have f0 : Rd Try.prog W 3 (([a, b].drop 0).take (Try.prog.cellsOf 3)) := hf 0 _ rfl
    have f1 : Rd Try.prog W 3 (([a, b].drop 1).take (Try.prog.cellsOf 3)) := hf 1 _ rfl
    rw [h1] at f0 f1
    change Rd Try.prog W 3 [a] at f0
    change Rd Try.prog W 3 [b] at f1
    obtain ⟨d, e0, -⟩ := rd_int Try.underlying3 f0
    obtain ⟨s, e1, -⟩ := rd_int Try.underlying3 f1
    simp only [List.cons.injEq, and_true] at e0 e1
    exact ⟨d, s, by rw [e0, e1]⟩

theorem nil_walk (d s : Int) (w : World) : Calls Try.prog 6 #[.agg #[.int .i64 d, .int .i64 s]] w fun e w' => e = .returned (.bool true) ∧ Kp [] w w' := by
  go_enter Try.func6, Try.ntmps6
  obtain ⟨w0, hw0⟩ : ∃ w0, w0 = (w.alloc (Obj.cells #[Value.int IntKind.i64 d, Value.int IntKind.i64 s] 31)) := ⟨_, rfl⟩
  have kw0 : Kp [] w w0 := hw0 ▸ (Kp.refl _ _).alloc _
  have c2 := Kp.cellAt (X := []) (w0 := w0) (p := ⟨w.heap.size, 0, none⟩) (v := .int .i64 d) (by rw [hw0]; exact cell_of_cells (block_new _ _) rfl) (by simp)
  have c3 := Kp.cellAt (X := []) (w0 := w0) (p := ⟨w.heap.size, 1, none⟩) (v := .int .i64 s) (by rw [hw0]; exact cell_of_cells (block_new _ _) rfl) (by simp)
  have Hw0 := Lib.hid hw0
  clear hw0
  go_wp2_with fail
  rw [← Hw0.out]
  refine (take_nil _ _).mono ?_
  rintro e w1 ⟨rfl, hK⟩
  go_wp2_with fail
  refine (all_nil _ _).mono ?_
  rintro e w2 ⟨rfl, h2⟩
  have hK := (hK.alloc _).trans h2
  clear h2
  go_wp2_with fail
  refine (mark_nil _ _ _).mono ?_
  rintro e w3 ⟨rfl, h3⟩
  have hK := hK.trans h3
  clear h3
  go_wp2_with fail
  refine (give_nil _ _ _).mono ?_
  rintro e w4 ⟨rfl, h4⟩
  have hK := hK.trans h4
  clear h4
  go_wp2_with fail
  refine (taken_nil _ _ _).mono ?_
  rintro e w5 ⟨rfl, h5⟩
  have hK := hK.trans h5
  clear h5
  go_wp2_with fail
  refine (free_nil _ _).mono ?_
  rintro e w6 ⟨rfl, h6⟩
  have hK := hK.trans h6
  clear h6
  go_wp2_with fail
  refine (live_true _).mono ?_
  rintro e w7 ⟨rfl, h7⟩
  have hK := hK.trans h7
  clear h7
  go_wp2_with fail
  go_ret
  exact ⟨rfl, kw0.trans hK⟩

theorem nil_lifted (os : Os) (started : os.Started) (H : Type) (enc : TypeId × Value → H) :
    ReturnsInHanded {} Try.checked os 6 .any (Rows.spaceNilSpec.pre6 enc Try.prog Try.f6 Rows.spaceNilRow.domain false) (Rows.spaceNilSpec.post enc Try.prog Try.f6 false true false false) := by
  refine law_lifted Rows.spaceNilSpec Try.func6 (by kernel_rfl) Try.underlying4 rfl (by decide +kernel) rfl ?_ ?_ os started H enc
    (ChangeSpec.witness6 (enc := enc) (C := Try.checked) false ⟨#[], #[.agg #[.int .i64 0, .int .i64 0]], []⟩ 8 (by kernel_rfl) (by kernel_rfl) (by kernel_rfl) (by kernel_rfl))
  · intro H ds hl
    match ds, hl with
    | [d], _ => exact ⟨rfl, rfl, rfl⟩
  · rintro W vs ⟨v, vs', base, rfl, hok, hrd, rfl⟩
    obtain ⟨cs, rfl, -⟩ := okWide_struct Try.underlying31 hok
    obtain ⟨d, s, hds⟩ := loc_of hrd
    have e : cs = #[.int .i64 d, .int .i64 s] := by
      have : cs.toList = [.int .i64 d, .int .i64 s] := hds
      rw [← Array.toArray_toList (xs := cs), this]
    subst e
    exact nil_walk d s W

theorem space_nil_holds : Rows.SpaceNilSaid :=
  OpenClaim.holds_of_wide 6 Try.f6 rfl rfl rfl rfl rfl rfl rfl ⟨rfl, rfl, rfl, rfl, rfl⟩ rfl rfl rfl rfl rfl (by kernel_rfl) Try.func6 (by kernel_rfl)
    (of_decide_eq_true (by kernel_rfl)) (by unfold Func.isWrapper; first | (rw [if_pos (by decide +kernel)]; kernel_rfl) | (rw [if_neg (by decide +kernel)]; exact ⟨rfl, rfl⟩))
    (fun os started H enc _ => nil_lifted os started H enc)
end Go.Proofs.Ytmegcmjklealbaa
