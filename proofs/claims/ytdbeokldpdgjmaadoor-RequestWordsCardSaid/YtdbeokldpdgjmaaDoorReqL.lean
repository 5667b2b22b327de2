/-
  live: some answers that the document gives, of requests' lines.
-/
import Derived.Test.YtdbeokldpdgjmaaDoorReqU
import Derived.Test.YtdbeokldpdgjmaaDoorReqQ
namespace Go.Proofs.YtdbeokldpdgjmaaDoor
open Go.RowKit Go.WideShapes

theorem lv1 : parseR ⟨#[112, 117, 116, 32, 97, 32, 54, 56, 54, 57]⟩ = ((0, ⟨#[97]⟩, ⟨#[104, 105]⟩), 0) := by decide +kernel
theorem lv2 : printR 4 ⟨#[]⟩ ⟨#[]⟩ = (⟨#[108, 105, 115, 116]⟩, 0) := by decide +kernel
theorem lv3 : parseR ⟨#[112, 117, 116, 32, 97, 32, 54, 56, 54]⟩ = (zeroReq, 14) := by decide +kernel
theorem lv4 : parseR ⟨#[103, 101, 116, 32, 97, 32, 98]⟩ = (zeroReq, 14) := by decide +kernel
theorem lv5 : parseR ⟨#[103, 101, 116, 32, 1]⟩ = (zeroReq, 11) := by decide +kernel
theorem lv6 : checkE 1 ⟨#[97]⟩ ⟨#[120]⟩ = 1 := by decide +kernel
theorem lv7 : SB (answerL 1 0 ⟨#[]⟩ []) = ⟨#[118, 97, 108, 117, 101, 32, 45]⟩ := by decide +kernel
theorem lv8 : SB (answerL 1 9 ⟨#[]⟩ []) = ⟨#[101, 114, 114, 111, 114, 32, 57]⟩ := by
  show (⟨([101, 114, 114, 111, 114, 32] ++ Lib.decDigits 9).toArray⟩ : ByteArray) = _
  rw [Lib.decDigits, dif_pos (by decide)]
  rfl
theorem nil_keys (w : World) : SliceAt w.heap.size w (.slice none 0 0) 1 0 ([].map Value.string) := ⟨rfl, none, 0, rfl, fun h => absurd h (by decide)⟩
set_option maxHeartbeats 1000000 in
set_option maxRecDepth 100000 in
theorem live_true (w : World) (hsh : w.ShapedOpen Tryd.prog) (htab : Lib.TabIs Tryd.prog w "internal/strconv.uint64pow10" .u64 Lib.pow10Tab) : Calls Tryd.prog 9 #[] w fun e w' => e = .returned (.bool true) ∧ Kp [] w w' := by
  go_enter Tryd.func9, Tryd.ntmps9
  go_wp2_with fail
  refine (qparse _ (by decide) _ hsh).mono ?_
  rintro e w1 ⟨rfl, k1⟩
  rw [lv1]
  simp only [reqV, zeroReq]
  go_wp2_with fail
  obtain ⟨w2, h2⟩ : ∃ w2, w2 = w1.alloc (.cells #[.int .i64 0, .string ⟨#[97]⟩, .string ⟨#[104, 105]⟩] 23) := ⟨_, rfl⟩
  have b2 : w2.heap[w1.heap.size]? = some (.cells #[.int .i64 0, .string ⟨#[97]⟩, .string ⟨#[104, 105]⟩] 23 (0, 0)) := by rw [h2]; exact block_new _ _
  have kw : Kp [] w w2 := by rw [h2]; exact k1.alloc _
  obtain ⟨c1, c2, c3, -, -, -⟩ := box3At b2
  rw [← h2]
  have hk := Kp.refl [] w2
  clear h2 b2 k1
  refine (qprint 4 ⟨#[]⟩ ⟨#[]⟩ (by decide) (by decide) _).mono ?_
  rw [lv2]
  rintro e w3 ⟨rfl, k1⟩
  have hk' := hk.trans k1
  clear k1 hk
  have hk := hk'
  clear hk'
  go_wp2_with fail
  refine (qparse _ (by decide) _ (shaped_keep hsh (kw.trans hk))).mono ?_
  rintro e w4 ⟨rfl, k1⟩
  rw [lv3]
  have hk' := hk.trans k1
  clear k1 hk
  have hk := hk'
  clear hk'
  simp only [reqV, zeroReq]
  have hk' := hk.alloc (.cells #[.int .i64 0, .string ⟨#[]⟩, .string ⟨#[]⟩] 23)
  clear hk
  have hk := hk'
  clear hk'
  go_wp2_with fail
  refine (qparse _ (by decide) _ (shaped_keep hsh (kw.trans hk))).mono ?_
  rintro e w5 ⟨rfl, k1⟩
  rw [lv4]
  have hk' := hk.trans k1
  clear k1 hk
  have hk := hk'
  clear hk'
  simp only [reqV, zeroReq]
  have hk' := hk.alloc (.cells #[.int .i64 0, .string ⟨#[]⟩, .string ⟨#[]⟩] 23)
  clear hk
  have hk := hk'
  clear hk'
  go_wp2_with fail
  refine (qparse _ (by decide) _ (shaped_keep hsh (kw.trans hk))).mono ?_
  rintro e w6 ⟨rfl, k1⟩
  rw [lv5]
  have hk' := hk.trans k1
  clear k1 hk
  have hk := hk'
  clear hk'
  simp only [reqV, zeroReq]
  have hk' := hk.alloc (.cells #[.int .i64 0, .string ⟨#[]⟩, .string ⟨#[]⟩] 23)
  clear hk
  have hk := hk'
  clear hk'
  go_wp2_with fail
  refine (qcheck 1 ⟨#[97]⟩ ⟨#[120]⟩ (by decide) (by decide) _).mono ?_
  rw [lv6]
  rintro e w7 ⟨rfl, k1⟩
  have hk' := hk.trans k1
  clear k1 hk
  have hk := hk'
  clear hk'
  go_wp2_with fail
  refine (qanswer 1 0 ⟨#[]⟩ _ [] _ (by decide) (by decide) (by decide) (nil_keys _) (by decide) (fun _ h => by cases h) (htab.keep (kw.trans hk))).mono ?_
  rw [lv7]
  rintro e w8 ⟨rfl, k1⟩
  have hk' := hk.trans k1
  clear k1 hk
  have hk := hk'
  clear hk'
  go_wp2_with fail
  refine (qanswer 1 9 ⟨#[]⟩ _ [] _ (by decide) (by decide) (by decide) (nil_keys _) (by decide) (fun _ h => by cases h) (htab.keep (kw.trans hk))).mono ?_
  rw [lv8]
  rintro e w9 ⟨rfl, k1⟩
  have hk' := hk.trans k1
  clear k1 hk
  have hk := hk'
  clear hk'
  go_wp2_with fail
  go_ret
  exact ⟨rfl, kw.trans hk⟩
end Go.Proofs.YtdbeokldpdgjmaaDoor
