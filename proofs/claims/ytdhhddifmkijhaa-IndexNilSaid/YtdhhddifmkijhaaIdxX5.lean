/-
  IndexNil: an index that is none knows nothing. For every key, every ID.
  Conditions: none beyond the row's own.
-/
import Derived.Test.YtdhhddifmkijhaaIdxLv
import Derived.Test.YtdhhddifmkijhaaIdxNl
import Derived.Test.YtdhhddifmkijhaaIdxRd
namespace Go.Proofs.Ytdhhddifmkijhaa
open Go.ChangeShapes Go.WideShapes Go.ChangeAt Go.RowKit Go.WideElems

set_option maxHeartbeats 4000000 in
set_option maxRecDepth 100000 in
theorem nil_walk (key : ByteArray) (id : Int) (w : World) : Calls Try.prog 7 #[.string key, .int .i64 id] w fun e w' => e = .returned (.bool true) ∧ Kp [] w w' := by
  have hK := Kp.refl [] w
  go_enter Try.func7, Try.ntmps7
  go_wp2_with fail
  refine (iget_nil key _).mono ?_
  rintro e w2 ⟨rfl, k2⟩
  replace hK := hK.trans k2
  clear k2
  simp only [EntVA]
  go_wp2_with fail
  refine (ivolume_nil id _).mono ?_
  rintro e w3 ⟨rfl, k2⟩
  replace hK := (hK.alloc _).trans k2
  clear k2
  simp only [VolVA]
  go_wp2_with fail
  refine (put_any kA 0 _).mono ?_
  rintro e w4 ⟨av, cv, rfl, -, k2⟩
  replace hK := (hK.alloc _).trans k2
  clear k2
  go_wp2_with fail
  refine (iapply_nil (putR kA 0) av 9 cv _).mono ?_
  rintro e w5 ⟨rfl, k2⟩
  replace hK := hK.trans k2
  clear k2
  go_wp2_with fail
  refine (put_any kA 0 _).mono ?_
  rintro e w6 ⟨av2, cv2, rfl, -, k2⟩
  replace hK := hK.trans k2
  clear k2
  go_wp2_with fail
  refine (imay_nil (putR kA 0) av2 9 cv2 _).mono ?_
  rintro e w7 ⟨rfl, k2⟩
  replace hK := hK.trans k2
  clear k2
  go_wp2_with fail
  refine (iknown_nil key _).mono ?_
  rintro e w8 ⟨rfl, k2⟩
  replace hK := hK.trans k2
  clear k2
  go_wp2_with fail
  refine (ilist_nil key 3 _).mono ?_
  rintro e w9 ⟨rfl, k2⟩
  replace hK := hK.trans k2
  clear k2
  go_wp2_with fail
  refine (ivolumes_nil _).mono ?_
  rintro e w10 ⟨rfl, k2⟩
  replace hK := hK.trans k2
  clear k2
  go_wp2_with fail
  refine (inext_nil _).mono ?_
  rintro e w11 ⟨rfl, k2⟩
  replace hK := hK.trans k2
  clear k2
  go_wp2_with fail
  refine (live_true _).mono ?_
  rintro e wl ⟨rfl, kl⟩
  have hkl := (hK).trans kl
  clear kl
  go_wp2_with fail
  go_ret
  exact ⟨rfl, hkl⟩
set_option maxRecDepth 100000 in
theorem nil_lifted (os : Os) (started : os.Started) (H : Type) (enc : TypeId × Value → H) :
    ReturnsInHanded {} Try.checked os 7 .any (Rows.indexNilSpec.pre6 enc Try.prog Try.f7 Rows.indexNilRow.domain false) (Rows.indexNilSpec.post enc Try.prog Try.f7 false true false false) := by
  refine law_lifted Rows.indexNilSpec Try.func7 (by kernel_rfl) Try.underlying4 rfl (by decide +kernel) rfl ?_ ?_ os started H enc
    (ChangeSpec.witness6 (enc := enc) (C := Try.checked) false ⟨#[], #[.string ⟨#[]⟩, .int .i64 0], []⟩ 8 (by kernel_rfl) (by kernel_rfl) (by kernel_rfl) (by kernel_rfl))
  · intro H ds hl
    match ds, hl with
    | [d, d2], _ => exact ⟨rfl, rfl, rfl⟩
  · (rintro W vs ⟨v, vs1, base, rfl, hok, hrd, v2, vs2, base2, rfl, hok2, hrd2, rfl⟩; obtain ⟨s, rfl⟩ := okWide_string Try.underlying9 hok; obtain ⟨n, rfl⟩ := okWide_int Try.underlying3 hok2; exact nil_walk s n W)
set_option maxRecDepth 100000 in
theorem nil_holds : Rows.IndexNilSaid :=
  OpenClaim.holds_of_wide 7 Try.f7 rfl rfl rfl rfl rfl rfl rfl ⟨rfl, rfl, rfl, rfl, rfl⟩ rfl rfl rfl rfl rfl (by kernel_rfl) Try.func7 (by kernel_rfl)
    (of_decide_eq_true (by kernel_rfl)) (by unfold Func.isWrapper; first | (rw [if_pos (by decide +kernel)]; kernel_rfl) | (rw [if_neg (by decide +kernel)]; exact ⟨rfl, rfl⟩))
    (fun os started H enc _ => nil_lifted os started H enc)
#print axioms nil_holds
end Go.Proofs.Ytdhhddifmkijhaa
