/-
  A model's Do: what it answers, and what is known behind it.
  A strings.Builder of the call's own: (*strings.Builder).WriteString, with the frame told.
-/
import Derived.Test.YtlomniffpjndfaaDoorMdF
import Derived.Test.YtlomniffpjndfaaDoorMdE
namespace Go.Proofs.YtlomniffpjndfaaDoor
open Go.RowKit Go.ChangeMaps Go.Maps Go.WideShapes Go.WideMaps Go.WideElems Go.MapKept Go.ChangeShapes Go.Sort

def Mdl.answer (f : ByteArray → ByteArray) (M : Mdl) (kind : Int) (k v : ByteArray) : RespD :=
  if checkE kind k v ≠ 0 then ⟨checkE kind k v, E0, []⟩
  else if kind = 0 then (if (aGet k M).isSome then ⟨13, E0, []⟩ else ⟨0, E0, []⟩)
  else if kind = 1 then (if M.has k then ⟨0, (M.at k).1, []⟩ else ⟨9, E0, []⟩)
  else if kind = 2 then (if M.has k then ⟨0, E0, []⟩ else ⟨9, E0, []⟩)
  else if kind = 3 then (if M.has k then ⟨0, statV f (M.at k).1, []⟩ else ⟨9, E0, []⟩)
  else ⟨0, E0, M.listed k⟩
def Mdl.after (M : Mdl) (kind : Int) (k v : ByteArray) : Mdl :=
  if checkE kind k v ≠ 0 then M
  else if kind = 0 then (if (aGet k M).isSome then M else aPut k (v, false) M)
  else if kind = 2 then (if M.has k then aPut k (E0, true) M else M)
  else M
theorem check_kinds {kind : Int} {k v : ByteArray} (h : checkE kind k v = 0) : kind = 0 ∨ kind = 1 ∨ kind = 2 ∨ kind = 3 ∨ kind = 4 := by
  unfold checkE at h
  by_cases h1 : kind < 0
  · rw [if_pos h1] at h; cases h
  by_cases h2 : 4 < kind
  · rw [if_neg h1, if_pos h2] at h; cases h
  omega
theorem check_sizes {kind : Int} {k v : ByteArray} (h : checkE kind k v = 0) : k.size ≤ 32 ∧ v.size ≤ 384 := by
  have hk := check_kinds h
  unfold checkE at h
  rw [if_neg (by omega), if_neg (by omega)] at h
  by_cases h1 : kind ≠ 0 ∧ v.size ≠ 0
  · rw [if_pos h1] at h; cases h
  · rw [if_neg h1] at h
    by_cases h2 : kind = 4 ∧ k.size = 0
    · exact ⟨by omega, by omega⟩
    · rw [if_neg h2] at h
      unfold needleE at h
      cases e : keyOk k with
      | false => rw [e] at h; cases h
      | true =>
        rw [e] at h
        simp only [if_true] at h
        unfold keyOk at e
        simp only [Bool.and_eq_true, decide_eq_true_eq] at e
        split at h
        · cases h
        · exact ⟨e.2.2, by omega⟩
theorem aPut_len {α β : Type} [DecidableEq α] (k : α) (v : β) : ∀ l : List (α × β), (aPut k v l).length ≤ l.length + 1
  | [] => by simp [aPut]
  | p :: r => by
    unfold aPut
    split
    · simp
    · have := aPut_len k v r
      simp only [List.length_cons]; omega
theorem after_short {M : Mdl} (hs : Short M) (kind : Int) (k v : ByteArray) : Short (M.after kind k v) := by
  unfold Mdl.after
  split
  · exact hs
  · rename_i h
    obtain ⟨h1, h2⟩ := check_sizes (Decidable.not_not.1 h)
    split
    · split
      · exact hs
      · exact hs.put h1 h2
    · split
      · split
        · exact hs.put h1 (by decide)
        · exact hs
      · exact hs
theorem after_len (M : Mdl) (kind : Int) (k v : ByteArray) : (M.after kind k v).length ≤ M.length + 1 := by
  unfold Mdl.after
  split
  · omega
  · split
    · split
      · omega
      · exact aPut_len _ _ _
    · split
      · split
        · exact aPut_len _ _ _
        · omega
      · omega
theorem mdo {f : ByteArray → ByteArray} (hf : SumOk f) {mb eb : Nat} {M : Mdl} (hs : Short M) (hz : M.length ≤ 1000) (kind : Int) (k v : ByteArray) (hk : k.size < 16384) (hv : v.size < 16384) (w : World) (h : MdAt mb eb w M) (htab : Lib.TabIs Tryd.prog w "internal/strconv.uint64pow10" .u64 Lib.pow10Tab) :
    Calls Tryd.prog 12 #[Md.p mb, ReqV kind k v] w fun e w' => ∃ x, e = .returned x ∧ Gave w.heap.size w' x (M.answer f kind k v) ∧ MdAt mb eb w' (M.after kind k v) ∧ Kp [eb] w w' := by
  by_cases hc : checkE kind k v ≠ 0
  · have ea : M.answer f kind k v = ⟨checkE kind k v, E0, []⟩ := by unfold Mdl.answer; rw [if_pos hc]
    have eb' : M.after kind k v = M := by unfold Mdl.after; rw [if_pos hc]
    rw [ea, eb']
    refine (mdo_err kind k v hk hv w h hc).mono ?_
    rintro e w' ⟨rfl, hM, kk⟩
    exact ⟨_, rfl, gave_nil _ _ _ _, hM, kk.weaken (fun _ _ hm => by cases hm)⟩
  · have hc0 := Decidable.not_not.1 hc
    obtain ⟨hk32, hv384⟩ := check_sizes hc0
    rcases check_kinds hc0 with rfl | rfl | rfl | rfl | rfl
    · have ea : M.answer f 0 k v = if (aGet k M).isSome then ⟨13, E0, []⟩ else ⟨0, E0, []⟩ := by simp [Mdl.answer, hc0]
      have eb' : M.after 0 k v = if (aGet k M).isSome then M else aPut k (v, false) M := by simp [Mdl.after, hc0]
      rw [ea, eb']
      refine mdo_put 0 rfl k v hk hv w h hc0 (fun W kW => (mput hs 0 k v hk32 W (h.keep0 kW)).mono ?_)
      rintro e w' ⟨rfl, hM, kk⟩
      refine ⟨_, rfl, ?_, hM, kk⟩
      cases (aGet k M).isSome <;> exact gave_nil _ _ _ _
    · have ea : M.answer f 1 k v = if M.has k then ⟨0, (M.at k).1, []⟩ else ⟨9, E0, []⟩ := by simp [Mdl.answer, hc0]
      have eb' : M.after 1 k v = M := by simp [Mdl.after, hc0]
      rw [ea, eb']
      refine mdo_get 1 rfl k v hk hv w h hc0 (fun W kW => (mget hs 1 k v hk32 W (h.keep0 kW) (htab.keep kW)).mono ?_)
      rintro e w' ⟨rfl, kk⟩
      refine ⟨_, rfl, ?_, (h.keep0 kW).keep0 kk, kk.weaken (fun _ _ hm => by cases hm)⟩
      cases M.has k <;> exact gave_nil _ _ _ _
    · have ea : M.answer f 2 k v = if M.has k then ⟨0, E0, []⟩ else ⟨9, E0, []⟩ := by simp [Mdl.answer, hc0]
      have eb' : M.after 2 k v = if M.has k then aPut k (E0, true) M else M := by simp [Mdl.after, hc0]
      rw [ea, eb']
      refine mdo_remove 2 rfl k v hk hv w h hc0 (fun W kW => (mremove hs 2 k v hk32 W (h.keep0 kW)).mono ?_)
      rintro e w' ⟨rfl, hM, kk⟩
      refine ⟨_, rfl, ?_, hM, kk⟩
      cases M.has k <;> exact gave_nil _ _ _ _
    · have ea : M.answer f 3 k v = if M.has k then ⟨0, statV f (M.at k).1, []⟩ else ⟨9, E0, []⟩ := by simp [Mdl.answer, hc0]
      have eb' : M.after 3 k v = M := by simp [Mdl.after, hc0]
      rw [ea, eb']
      refine mdo_stat 3 rfl k v hk hv w h hc0 (fun W kW => (mstat hf hs 3 k v hk32 W (h.keep0 kW) (htab.keep kW)).mono ?_)
      rintro e w' ⟨rfl, kk⟩
      refine ⟨_, rfl, ?_, (h.keep0 kW).keep0 kk, kk.weaken (fun _ _ hm => by cases hm)⟩
      cases M.has k <;> exact gave_nil _ _ _ _
    · have ea : M.answer f 4 k v = ⟨0, E0, M.listed k⟩ := by simp [Mdl.answer, hc0]
      have eb' : M.after 4 k v = M := by simp [Mdl.after, hc0]
      rw [ea, eb']
      refine mdo_list 4 rfl k v hk hv w h hc0 (fun W kW => (mlist hs hz 4 k v W (h.keep0 kW)).mono ?_)
      rintro e w' ⟨av, cv, rfl, hO, kk⟩
      exact ⟨_, rfl, ⟨av, cv, rfl, hO⟩, (h.keep0 kW).keep0 kk, kk.weaken (fun _ _ hm => by cases hm)⟩
end Go.Proofs.YtlomniffpjndfaaDoor

namespace Go.Proofs.YtlomniffpjndfaaDoor
open Go.RowKit

structure BldX (B : Nat) (W : World) (b : Nat) (v : Value) (l : List UInt8) : Prop where
  blk : ∃ p, (p = .pointer none ∨ p = .pointer (some ⟨b, 0, none⟩)) ∧ W.heap[b]? = some (.cells #[p, v] 62 (0, 0))
  own : W.ownsRow B 5 1 v l.length (Lib.byteCells l)
  above : b < B
theorem BldX.bld {B : Nat} {W : World} {b : Nat} {v : Value} {l : List UInt8} (h : BldX B W b v l) : Bld W b v l := ⟨h.blk, ownsRow_base h.own (by have := h.above; omega)⟩
theorem BldX.keep {B : Nat} {X : List Nat} {w w' : World} {b : Nat} {v : Value} {l : List UInt8} (h : BldX B w b v l) (k : Kp X w w') (hb : b ∉ X) (hg : ∀ g, v.ownBlock = some g → g ∉ X) : BldX B w' b v l := by
  obtain ⟨p, hp, hb'⟩ := h.blk
  exact ⟨⟨p, hp, Kp.blockAt hb' hb _ k⟩, owns_other h.own k hg, h.above⟩
theorem strCells_eq (s : ByteArray) : Lib.strCells s = Lib.byteCells s.data.toList := rfl
set_option maxHeartbeats 1000000 in
set_option maxRecDepth 20000 in
theorem wstr (B b : Nat) (v : Value) (l : List UInt8) (s : ByteArray) (w : World) (h : BldX B w b v l) (hl : l.length + s.size ≤ 1000000) (hB : B ≤ w.heap.size) :
    Calls Tryd.prog 35 #[.pointer (some ⟨b, 0, none⟩), .string s] w fun e w' => ∃ v', e = .returned (.tuple #[.int .i64 s.size, .nilIface]) ∧ BldX B w' b v' (l ++ s.data.toList) ∧ Kp (b :: v.ownBlock.toList) w w' := by
  obtain ⟨i0, hi, hz0, hz1, hz2⟩ := info_parts Tryd.info5
  have hge := own_block_ge h.own
  have hab := h.above
  go_enter Tryd.func35, Tryd.ntmps35
  go_wp2_with fail
  refine (ccheck b v l w h.bld).mono ?_
  rintro e w1 ⟨rfl, hb1, -, k1⟩
  have hown1 := owns_other h.own k1 (fun g hg => by have := hge g hg; simp only [List.mem_singleton]; omega)
  obtain ⟨av, cv, rfl⟩ := ownsRow_ex hown1
  have c1 : w1.cell? ⟨b, 1, none⟩ = some (.slice av l.length cv) := cell_of_cells hb1 rfl
  have hsz := k1.size
  have HE := Lib.hid hge
  have H0 := Lib.hid h
  clear hge h
  go_wp2_with (first | (at_builtin; refine Lib.wpList_append_own_string _ rfl (.tmp 12) (.tmp 13) 60 9 rfl B 5 i0 Tryd.underlying60 Tryd.underlying9 hi hz0 hz1 hz2 (.slice av l.length cv) l.length (Lib.byteCells l) rfl hown1 s rfl (by unfold maxLen; omega) (by omega) (by omega) ?_))
  intro v' w3 hown' hgr _
  obtain ⟨av', cv', rfl⟩ := ownsRow_ex hown'
  have k13 : Kp (Value.slice av l.length cv).ownBlock.toList w1 w3 := Kp.of_grown hgr
  have hbx : b ∉ (Value.slice av l.length cv).ownBlock.toList := fun hm => by
    simp only [Option.mem_toList] at hm
    have := HE.out _ hm; omega
  have hb3 := Kp.blockAt hb1 hbx _ k13
  have e1 : w3.cell? ⟨b, 1, none⟩ = some (.slice av l.length cv) := cell_of_cells hb3 rfl
  have e2 : w3.frozen? ⟨b, 1, none⟩ = false := frozen_of_cells hb3 _
  have HO := Lib.hid hown'
  clear hown' hgr c1
  go_wp2_with fail
  go_ret2
  have hc : Lib.byteCells l ++ Lib.strCells s = Lib.byteCells (l ++ s.data.toList) := by simp [Lib.byteCells, Lib.strCells]
  have hl1 : l.length + s.size = (l ++ s.data.toList).length := by simp
  refine ⟨.slice av' (l.length + s.size) cv', rfl, ⟨⟨_, .inr rfl, ?_⟩, ?_, hab⟩, ?_⟩
  · rw [block_setCell hb3]
    rfl
  · have h := HO.out
    rw [hc, hl1] at h
    rw [hl1]
    exact ownsRow_keep (X := [b]) h ((Kp.refl _ _).setCell (.inl (by simp)) _) (fun i hi => by simp; omega)
  · have ka : Kp (b :: (Value.slice av l.length cv).ownBlock.toList) w w1 := k1.weaken (fun _ _ hm => by
      simp only [List.mem_singleton] at hm; subst hm; exact List.mem_cons_self ..)
    exact (ka.trans (k13.weaken (fun _ _ hm => List.mem_cons_of_mem _ hm))).setCell (.inl (by simp)) _
end Go.Proofs.YtlomniffpjndfaaDoor
