/-
  The words of a line: strings.Split at a blank, and the document's Words.
-/
import Derived.Test.YtmihnakapnoefaaGreatDoorReqT
import Derived.Test.YtmihnakapnoefaaGreatDoorRowL
import Derived.Lib.SplitLaws
namespace Go.Proofs.YtmihnakapnoefaaGreatDoor
open Go.RowKit Go.WideShapes

def wordsOf : List UInt8 → List (List UInt8)
  | [] => [[]]
  | b :: l => if b = 32 then [] :: wordsOf l else match wordsOf l with
    | x :: r => (b :: x) :: r
    | [] => [[b]]
theorem wordsOf_ne : ∀ l, wordsOf l ≠ []
  | [] => by simp [wordsOf]
  | b :: l => by
    unfold wordsOf
    split
    · simp
    · split <;> simp
theorem wordsOf_no : ∀ l : List UInt8, (∀ b ∈ l, b ≠ 32) → wordsOf l = [l]
  | [], _ => rfl
  | b :: l, h => by
    unfold wordsOf
    rw [if_neg (h b (List.mem_cons_self ..)), wordsOf_no l (fun x hx => h x (List.mem_cons_of_mem _ hx))]
theorem wordsOf_cut : ∀ (a r : List UInt8), (∀ b ∈ a, b ≠ 32) → wordsOf (a ++ 32 :: r) = a :: wordsOf r
  | [], r, _ => by rw [List.nil_append, wordsOf, if_pos rfl]
  | b :: a, r, h => by
    rw [List.cons_append, wordsOf, if_neg (h b (List.mem_cons_self ..)), wordsOf_cut a r (fun x hx => h x (List.mem_cons_of_mem _ hx))]
theorem index_blank (b : UInt8) (l : List UInt8) (h : b ≠ 32) : Lib.index (b :: l) [32] = if Lib.index l [32] = -1 then -1 else Lib.index l [32] + 1 := by
  simp only [Lib.index]
  rw [if_neg (by simp; exact fun e => h e.symm)]
  by_cases e : Lib.index l [32] = -1
  · rw [if_pos e, if_pos (by simpa using e)]
  · rw [if_neg e, if_neg (by simpa using e)]
theorem split_words : ∀ s : List UInt8, Lib.splitK [32] 0 (Lib.count s [32]) s = wordsOf s
  | [] => rfl
  | b :: l => by
    by_cases hb : b = 32
    · subst hb
      have hi : Lib.index (32 :: l) [32] = 0 := by simp [Lib.index]
      rw [Lib.count_cons_eq, Nat.add_comm, Lib.splitK, if_neg (by rw [hi]; decide), hi]
      show [] :: Lib.splitK [32] 0 (Lib.count l [32]) l = _
      rw [split_words l, wordsOf, if_pos rfl]
    · rw [Lib.count_cons_ne b 32 l hb]
      have ih := split_words l
      by_cases hm : Lib.index l [32] = -1
      · rw [Lib.count_miss hm] at ih ⊢
        rw [wordsOf, if_neg hb, ← ih]
        rfl
      · obtain ⟨i, hi⟩ : ∃ i : Nat, Lib.index l [32] = i := ⟨(Lib.index l [32]).toNat, by have := Lib.index_ge l [32]; omega⟩
        have hc := Lib.count_hit (s := l) (sub := [32]) (by simp) hi
        obtain ⟨k, hk⟩ : ∃ k, Lib.count l [32] = k + 1 := ⟨_, by rw [hc, Nat.add_comm]⟩
        rw [hk] at ih ⊢
        have hi2 : Lib.index (b :: l) [32] = ((i + 1 : Nat) : Int) := by rw [index_blank b l hb, if_neg hm, hi]; rfl
        rw [wordsOf, if_neg hb, ← ih, Lib.splitK, Lib.splitK, if_neg (by rw [hi2]; simp; omega), if_neg (by rw [hi]; simp), hi2, hi]
        simp
/-- the pieces, as strings.Split hands them back -/
def piecesOf (s : ByteArray) : List ByteArray := Lib.splitB ⟨#[32]⟩ 0 (Lib.countB s ⟨#[32]⟩) s
theorem pieces_words (s : ByteArray) : (piecesOf s).map (·.data.toList) = wordsOf s.data.toList := by
  unfold piecesOf
  rw [Lib.splitB_data]
  exact split_words _
theorem pieces_len (s : ByteArray) : (piecesOf s).length = Lib.countB s ⟨#[32]⟩ + 1 := Lib.splitB_all _ (by decide) 0 _ s rfl

/-- v holds the words of s, in a row of the call's own -/
def Pieces (w w' : World) (v : Value) (s : ByteArray) : Prop := ∃ xs : List ByteArray, xs.map (·.data.toList) = wordsOf s.data.toList ∧ w'.ownsRow w.heap.size 9 1 v xs.length (xs.map Value.string)
set_option maxHeartbeats 1000000 in
set_option maxRecDepth 20000 in
theorem rwords (s : ByteArray) (hs : s.size < 16384) (w : World) :
    Calls Tryz.prog 35 #[.string s] w fun e w' => ∃ v : Value, e = .returned v ∧ Pieces w w' v s ∧ Kp [] w w' := by
  obtain ⟨i0, hi, hz0, hz1, hz2⟩ := info_parts Tryz.info9
  go_enter Tryz.func35, Tryz.ntmps35
  go_wp2_with fail
  go_loopg [3, 4, 5] (s.size + 1) (fun g o a i wr => ∃ (n t : Nat) (xs : List ByteArray), n + g = s.size + 1 ∧ i = .int .i64 n ∧ a = .int .i64 t ∧ wr.ownsRow w.heap.size 9 1 o xs.length (xs.map Value.string) ∧ xs.length ≤ n ∧ Kp [] w wr ∧
    ((t ≤ n ∧ n ≤ s.size ∧ xs.map (·.data.toList) ++ wordsOf (s.data.toList.drop t) = wordsOf s.data.toList ∧ (∀ b ∈ (s.data.toList.drop t).take (n - t), b ≠ 32)) ∨ (n = s.size + 1 ∧ xs.map (·.data.toList) = wordsOf s.data.toList)))
  case atStart => exact ⟨0, 0, [], by omega, rfl, rfl, World.ownsRow_nil _ _ _ _, by simp, Kp.refl _ _, .inl ⟨Nat.le_refl _, Nat.zero_le _, rfl, by simp⟩⟩
  case round =>
    obtain ⟨n, t, xs, hn, rfl, rfl, hown, hxl, hK, hinv⟩ := hrel
    have HN := Lib.hid hn
    obtain ⟨av, cv, rfl⟩ := ownsRow_ex hown
    by_cases hlt : n ≤ s.size
    · obtain ⟨g', rfl⟩ : ∃ g', gk = g' + 1 := ⟨gk - 1, by omega⟩
      have hltI : (n : Int) ≤ (s.size : Int) := by omega
      have hinv1 := hinv.resolve_right (fun h => by omega)
      obtain ⟨htn, -, hws, hno⟩ := hinv1
      have HI := Lib.hid (And.intro hws hno)
      clear hinv hws hno hn
      by_cases he : n = s.size
      · subst he
        have hge := own_block_ge hown
        go_wp2_with (first | (at_builtin; refine wpList_append_mine _ rfl (.tmp 22) (.tmp 27) 49 rfl w.heap.size 9 i0 (.string ByteArray.empty) 1 16 Tryz.underlying49 hi hz0 hz1 hz2 rfl (by decide) (.slice av xs.length cv) xs.length (xs.map Value.string) rfl (ownsRow_keep (X := []) hown ((Kp.refl _ wr).alloc _) (fun _ _ => by simp)) ⟨wr.heap.size, 0, none⟩ 1 1 [.string (s.extract t s.size)] rfl rfl (new_cells wr _ _) (fun u hu => by simp only [List.mem_singleton] at hu; subst hu; rfl) (by unfold maxLen; omega) (by omega) (by have := hK.size; simp; omega) ?_))
        intro v' w3 hown' hkp _ _
        obtain ⟨av', cv', rfl⟩ := ownsRow_ex hown'
        have hK' : Kp [] w w3 := hK.step (((Kp.refl _ wr).alloc _).trans hkp) (fun i hi hm => by
          simp only [Option.mem_toList] at hm
          have := hge _ hm; omega)
        have hl1 : xs.length + 1 = (xs ++ [(s.extract t s.size)]).length := by simp
        have hc1 : xs.map Value.string ++ [Value.string (s.extract t s.size)] = (xs ++ [(s.extract t s.size)]).map Value.string := by simp
        clear hge hkp
        go_wp2_with fail
        go_roundg g'
        case rel =>
          have hn := HN.out
          obtain ⟨hws, hno⟩ := HI.out
          refine ⟨s.size + 1, s.size + 1, xs ++ [s.extract t s.size], by omega, by go_num, by go_num, by rw [hl1, hc1] at hown'; rw [hl1]; exact hown', by simp; omega, hK', .inr ⟨rfl, ?_⟩⟩
          rw [← hws, List.map_append]
          congr 1
          have hlast : wordsOf (s.data.toList.drop t) = [s.data.toList.drop t] := wordsOf_no _ (fun b hb => hno b (by rw [List.take_of_length_le (by simp)]; exact hb))
          rw [hlast]
          simp only [List.map_cons, List.map_nil]
          rw [Lib.extract_data, List.take_of_length_le (by simp)]
        case measure => omega
      · have heI : ((n : Int) == (s.size : Int)) = false := by simp; omega
        have hnl : n < s.size := by omega
        have hnI : (n : Int) < (s.size : Int) := by omega
        obtain ⟨x, hx⟩ : ∃ x : UInt8, x = s[n]'hnl := ⟨_, rfl⟩
        have hget : s.data.toList[n]? = some x := by
          rw [List.getElem?_eq_getElem (by simpa using hnl), get_list s n hnl, hx]
        have HGT := Lib.hid hget
        by_cases hb : x = 32
        · have hbI : (((s[n]'hnl).toNat : Int) == 32) = true := by rw [← hx, hb]; rfl
          clear hget hx
          have htI : (t : Int) ≤ (n : Int) := by omega
          have hge := own_block_ge hown
          go_wp2_with (first | (at_builtin; refine wpList_append_mine _ rfl (.tmp 22) (.tmp 27) 49 rfl w.heap.size 9 i0 (.string ByteArray.empty) 1 16 Tryz.underlying49 hi hz0 hz1 hz2 rfl (by decide) (.slice av xs.length cv) xs.length (xs.map Value.string) rfl (ownsRow_keep (X := []) hown ((Kp.refl _ wr).alloc _) (fun _ _ => by simp)) ⟨wr.heap.size, 0, none⟩ 1 1 [.string (s.extract t n)] rfl rfl (new_cells wr _ _) (fun u hu => by simp only [List.mem_singleton] at hu; subst hu; rfl) (by unfold maxLen; omega) (by omega) (by have := hK.size; simp; omega) ?_))
          intro v' w3 hown' hkp _ _
          obtain ⟨av', cv', rfl⟩ := ownsRow_ex hown'
          have hK' : Kp [] w w3 := hK.step (((Kp.refl _ wr).alloc _).trans hkp) (fun i hi hm => by
            simp only [Option.mem_toList] at hm
            have := hge _ hm; omega)
          have hl1 : xs.length + 1 = (xs ++ [(s.extract t n)]).length := by simp
          have hc1 : xs.map Value.string ++ [Value.string (s.extract t n)] = (xs ++ [(s.extract t n)]).map Value.string := by simp
          clear hge hkp
          go_wp2_with fail
          go_roundg g'
          case rel =>
            have hn := HN.out
            obtain ⟨hws, hno⟩ := HI.out
            refine ⟨n + 1, n + 1, xs ++ [s.extract t n], by omega, by go_num, by go_num, by rw [hl1, hc1] at hown'; rw [hl1]; exact hown', by simp; omega, hK', .inl ⟨Nat.le_refl _, by omega, ?_, by simp⟩⟩
            rw [← hws, List.map_append, List.append_assoc]
            congr 1
            have hcut : s.data.toList.drop t = (s.data.toList.drop t).take (n - t) ++ 32 :: s.data.toList.drop (n + 1) := by
              have h1 := List.take_append_drop (n - t) (s.data.toList.drop t)
              rw [List.drop_drop, show t + (n - t) = n from by omega, List.drop_eq_getElem_cons (l := s.data.toList) (i := n) (by simpa using hnl)] at h1
              have h2 : s.data.toList[n]'(by simpa using hnl) = 32 := by
                have := HGT.out
                rw [List.getElem?_eq_getElem (by simpa using hnl), Option.some.injEq] at this
                rw [this, hb]
              rw [h2] at h1
              exact h1.symm
            rw [hcut, wordsOf_cut _ _ hno]
            simp only [List.map_cons, List.map_nil, List.cons_append, List.nil_append]
            rw [Lib.extract_data]
          case measure => omega
        · have hbI : (((s[n]'hnl).toNat : Int) == 32) = false := by
            rw [← hx]
            simp only [beq_eq_false_iff_ne]
            intro h
            exact hb (UInt8.toNat_inj.1 (by have : (32 : UInt8).toNat = 32 := rfl; omega))
          clear hget hx
          go_wp2_with fail
          go_roundg g'
          case rel =>
            have hn := HN.out
            obtain ⟨hws, hno⟩ := HI.out
            refine ⟨n + 1, t, xs, by omega, by go_num, rfl, hown, by omega, hK, .inl ⟨by omega, by omega, hws, fun b hbm => ?_⟩⟩
            rw [show n + 1 - t = (n - t) + 1 from by omega, List.take_add_one, List.mem_append] at hbm
            rcases hbm with h | h
            · exact hno b h
            · rw [List.getElem?_drop, show t + (n - t) = n from by omega, HGT.out] at h
              simp only [Option.toList, List.mem_singleton] at h
              rw [h]; exact hb
          case measure => omega
    · obtain rfl : n = s.size + 1 := by omega
      obtain rfl : gk = 0 := by omega
      have hfin : xs.map (·.data.toList) = wordsOf s.data.toList := by
        rcases hinv with ⟨-, h, -⟩ | ⟨-, h⟩
        · omega
        · exact h
      have hltI : ¬ ((s.size + 1 : Nat) : Int) ≤ (s.size : Int) := by omega
      have HF := Lib.hid hfin
      clear hinv hn hfin
      go_wp2_with fail
      go_ret
      exact ⟨.slice av xs.length cv, rfl, ⟨xs, HF.out, hown⟩, hK⟩
end Go.Proofs.YtmihnakapnoefaaGreatDoor
