/-
  Requests' lines, in plain Lean: what is printed is parsed as it was, what is parsed is printed as it was; the words of a line.
-/
import Derived.Test.YtmihnakapnoefaaGreatDoorReqR
namespace Go.Proofs.YtmihnakapnoefaaGreatDoor
open Go.RowKit Go.WideShapes

theorem hexD_digV : ∀ q : Fin 16, digV (hexD q.val) = (q.val : Int) := by decide +kernel
theorem digV_hexD : ∀ x : Fin 256, digV (UInt8.ofNat x.val) < 0 ∨ hexD (digV (UInt8.ofNat x.val)).toNat = UInt8.ofNat x.val := by decide +kernel
theorem digV_hexD' (b : UInt8) (h : ¬ digV b < 0) : hexD (digV b).toNat = b := by
  have := digV_hexD ⟨b.toNat, b.toNat_lt⟩
  rw [ofNat_toNat8] at this
  rcases this with h' | h'
  · exact absurd h' h
  · exact h'
theorem hexL_cons (b : UInt8) (l : List UInt8) : hexL (b :: l) = hexD (b.toNat / 16) :: hexD (b.toNat % 16) :: hexL l := by simp [hexL]
theorem hexL_at : ∀ (l : List UInt8) (n : Nat) (b : UInt8), l[n]? = some b → (hexL l).getD (2 * n) 0 = hexD (b.toNat / 16) ∧ (hexL l).getD (2 * n + 1) 0 = hexD (b.toNat % 16)
  | [], n, b, h => by simp at h
  | x :: l, 0, b, h => by
    simp only [List.getElem?_cons_zero, Option.some.injEq] at h
    subst h
    rw [hexL_cons]
    exact ⟨rfl, rfl⟩
  | x :: l, n + 1, b, h => by
    rw [hexL_cons]
    have := hexL_at l n b (by simpa using h)
    rw [show 2 * (n + 1) = 2 * n + 1 + 1 from by omega]
    simpa using this
theorem pv_hex (l : List UInt8) (n : Nat) (b : UInt8) (h : l[n]? = some b) : pv (hexL l) n = some b := by
  obtain ⟨h1, h2⟩ := hexL_at l n b h
  have hb := b.toNat_lt
  have e1 := hexD_digV ⟨b.toNat / 16, by omega⟩
  have e2 := hexD_digV ⟨b.toNat % 16, by omega⟩
  simp only at e1 e2
  unfold pv
  rw [h1, h2, e1, e2, if_neg (by omega), if_neg (by omega)]
  congr 1
  rw [show (16 * ((b.toNat / 16 : Nat) : Int) + ((b.toNat % 16 : Nat) : Int)).toNat = b.toNat from by omega]
  exact ofNat_toNat8 b
theorem pairs_hex (l : List UInt8) : ∀ n, n ≤ l.length → pairsN (hexL l) n = some (l.take n)
  | 0, _ => rfl
  | n + 1, h => by
    have hg : l[n]? = some l[n] := List.getElem?_eq_getElem (by omega)
    rw [pairs_step (pairs_hex l n (by omega)) (pv_hex l n _ hg), List.take_add_one, hg]
    rfl
theorem hexD_ne : ∀ q : Fin 16, hexD q.val ≠ 45 ∧ hexD q.val ≠ 32 := by decide +kernel
theorem hexL_mem {l : List UInt8} {c : UInt8} (h : c ∈ hexL l) : c ≠ 45 ∧ c ≠ 32 := by
  obtain ⟨b, -, hb⟩ := List.mem_flatMap.1 h
  have hl := b.toNat_lt
  simp only [List.mem_cons, List.not_mem_nil, or_false] at hb
  rcases hb with rfl | rfl
  · exact hexD_ne ⟨b.toNat / 16, by omega⟩
  · exact hexD_ne ⟨b.toNat % 16, by omega⟩
theorem undig_digits (l : List UInt8) : undigR (digitsL l) = some l := by
  unfold digitsL
  by_cases h : l = []
  · subst h; rfl
  · rw [if_neg h]
    unfold undigR
    have hl := hexL_len l
    have h0 : 0 < l.length := List.length_pos_iff.2 h
    rw [if_neg (fun e => by
      have := hexL_mem (l := l) (c := 45) (by rw [e]; simp)
      exact this.1 rfl), if_neg (fun e => by rw [e] at hl; simp at hl; omega), if_neg (by omega), hl, show 2 * l.length / 2 = l.length from by omega, pairs_hex l _ (Nat.le_refl _), List.take_length]
theorem take_two (l : List UInt8) (n : Nat) (h : 2 * n + 1 < l.length) : l.take (2 * (n + 1)) = l.take (2 * n) ++ [l.getD (2 * n) 0, l.getD (2 * n + 1) 0] := by
  rw [show 2 * (n + 1) = 2 * n + 1 + 1 from by omega, List.take_add_one, List.take_add_one, List.append_assoc]
  congr 1
  simp [List.getD, h, show 2 * n < l.length from by omega]
theorem hex_pairs (l : List UInt8) : ∀ (n : Nat) (u : List UInt8), 2 * n ≤ l.length → pairsN l n = some u → hexL u = l.take (2 * n)
  | 0, u, _, h => by
    simp only [pairsN, Option.some.injEq] at h
    subst h; rfl
  | n + 1, u, hl, h => by
    simp only [pairsN] at h
    split at h
    · rename_i u' b' h1 h2
      simp only [Option.some.injEq] at h
      subst h
      rw [take_two l n (by omega), ← hex_pairs l n u' (by omega) h1]
      unfold hexL
      rw [List.flatMap_append]
      congr 1
      unfold pv at h2
      split at h2
      · cases h2
      · split at h2
        · cases h2
        · rename_i g1 g2
          simp only [Option.some.injEq] at h2
          have r1 := (digV_range (l.getD (2 * n) 0)).2
          have r2 := (digV_range (l.getD (2 * n + 1) 0)).2
          have hb : b'.toNat = (16 * digV (l.getD (2 * n) 0) + digV (l.getD (2 * n + 1) 0)).toNat := by
            rw [← h2, UInt8.toNat_ofNat']; omega
          have d1 := digV_hexD' _ g1
          have d2 := digV_hexD' _ g2
          rw [List.flatMap_cons, List.flatMap_nil, List.append_nil, show b'.toNat / 16 = (digV (l.getD (2 * n) 0)).toNat from by omega, show b'.toNat % 16 = (digV (l.getD (2 * n + 1) 0)).toNat from by omega, d1, d2]
    · cases h
theorem digits_undig (l u : List UInt8) (h : undigR l = some u) : digitsL u = l := by
  unfold undigR at h
  split at h
  · rename_i e
    cases h; rw [e]; rfl
  · split at h
    · cases h
    · split at h
      · cases h
      · rename_i h1 h2 h3
        have hp := hex_pairs l _ u (by omega) h
        rw [show 2 * (l.length / 2) = l.length from by omega, List.take_length] at hp
        unfold digitsL
        rw [if_neg (fun e => by rw [e] at hp; exact h2 hp.symm), hp]
theorem digits_plain {l : List UInt8} {c : UInt8} (h : c ∈ digitsL l) : c ≠ 32 := by
  unfold digitsL at h
  split at h
  · simp only [List.mem_singleton] at h; subst h; decide
  · exact (hexL_mem h).2
theorem digits_ne (l : List UInt8) : digitsL l ≠ [] := by
  unfold digitsL
  split
  · simp
  · rename_i h
    intro e
    have := hexL_len l
    rw [e] at this
    exact h (List.eq_nil_of_length_eq_zero (by simp at this; omega))
/-- the words of what was joined -/
theorem words_join : ∀ (x : List UInt8) (r : List (List UInt8)), (∀ p ∈ x :: r, ∀ b ∈ p, b ≠ 32) → wordsOf (Lib.join (x :: r) [32]) = x :: r
  | x, [], h => by rw [Lib.join_one]; exact wordsOf_no x (h x (by simp))
  | x, y :: r, h => by
    have e : Lib.join (x :: y :: r) [32] = x ++ 32 :: Lib.join (y :: r) [32] := by
      rw [Lib.join_cons, Lib.join_cons]
      simp [Lib.joinTail]
    rw [e, wordsOf_cut x _ (h x (by simp)), words_join y r (fun p hp => h p (List.mem_cons_of_mem _ hp))]
theorem join_words : ∀ l : List UInt8, Lib.join (wordsOf l) [32] = l
  | [] => rfl
  | b :: l => by
    have ih := join_words l
    unfold wordsOf
    split
    · rename_i e
      subst e
      match hw : wordsOf l, wordsOf_ne l with
      | x :: r, _ =>
        rw [hw] at ih
        rw [Lib.join_cons] at ih ⊢
        simp only [Lib.joinTail, List.map_cons, List.flatten_cons, List.nil_append] at ih ⊢
        simp only [List.cons_append, List.nil_append] at ih ⊢
        rw [ih]
    · split
      · rename_i x r hw
        rw [hw] at ih
        rw [Lib.join_cons] at ih ⊢
        rw [List.cons_append, ih]
      · rename_i hw
        exact absurd hw (wordsOf_ne l)
theorem pieces_eq (s : ByteArray) : piecesOf s = (wordsOf s.data.toList).map SB := by
  rw [← pieces_words, List.map_map]
  conv => lhs; rw [← List.map_id (piecesOf s)]
  exact List.map_congr_left (fun x _ => (SB_data x).symm)
theorem pieces_join (x : List UInt8) (r : List (List UInt8)) (h : ∀ p ∈ x :: r, ∀ b ∈ p, b ≠ 32) : piecesOf (SB (Lib.join (x :: r) [32])) = SB x :: r.map SB := by
  rw [pieces_eq]
  show (wordsOf (Lib.join (x :: r) [32])).map SB = _
  rw [words_join x r h]
  rfl
theorem plain_ne {b : UInt8} (h : plainB b = true) : b ≠ 32 := by
  rintro rfl
  exact absurd h (by decide)
theorem key_plain {k : ByteArray} (h : keyOk k = true) : (∀ b ∈ k.data.toList, b ≠ 32) ∧ k.size ≠ 0 := by
  unfold keyOk at h
  simp only [Bool.and_eq_true, List.all_eq_true, decide_eq_true_eq] at h
  exact ⟨fun b hb => plain_ne (h.1 b hb), by omega⟩
theorem word_plain : ∀ (n : Nat), ∀ b ∈ wordL n, b ≠ 32 := by
  intro n
  match n with
  | 0 => decide
  | 1 => decide
  | 2 => decide
  | 3 => decide
  | 4 => decide
  | n + 5 => intro b hb; simp [wordL, wordList] at hb
theorem size_nil {k : ByteArray} (h : k.size = 0) : k = ⟨#[]⟩ := bytes_inj (by
  have : k.data.toList.length = 0 := by simpa using h
  simpa using List.eq_nil_of_length_eq_zero this)
theorem nil_size {k : ByteArray} (h : k.size ≠ 0) : k.data.toList ≠ [] := fun e => h (by
  have : k.data.toList.length = 0 := by rw [e]; rfl
  simpa using this)
/-- what a request that may be is -/
theorem check_ok {kind : Int} {k v : ByteArray} (h : checkE kind k v = 0) :
    (kind = 0 ∧ keyOk k = true) ∨ ((kind = 1 ∨ kind = 2 ∨ kind = 3 ∨ kind = 4) ∧ v = ⟨#[]⟩ ∧ keyOk k = true) ∨ (kind = 4 ∧ v = ⟨#[]⟩ ∧ k = ⟨#[]⟩) := by
  have hkd := check_kind h
  unfold checkE at h
  rw [if_neg (by omega), if_neg (by omega)] at h
  by_cases h1 : kind ≠ 0 ∧ v.size ≠ 0
  · rw [if_pos h1] at h; cases h
  · rw [if_neg h1] at h
    by_cases h2 : kind = 4 ∧ k.size = 0
    · exact .inr (.inr ⟨h2.1, size_nil (by omega), size_nil h2.2⟩)
    · rw [if_neg h2] at h
      have hk : keyOk k = true := by
        unfold needleE at h
        cases e : keyOk k with
        | true => rfl
        | false => rw [e] at h; cases h
      by_cases h0 : kind = 0
      · exact .inl ⟨h0, hk⟩
      · exact .inr (.inl ⟨by omega, size_nil (by omega), hk⟩)
theorem kind_of_word (n : Nat) (h : n < 5) : kindOf (SB (wordL n)) = (n : Int) := (kind_word _ n h).1 rfl
theorem parse_one (x0 s : ByteArray) (h : piecesOf s = [x0]) : parseR s = if kindOf x0 = 4 then ((4, ⟨#[]⟩, ⟨#[]⟩), 0) else (zeroReq, 14) := by
  unfold parseR; rw [h]
theorem parse_two (x0 x1 s : ByteArray) (h : piecesOf s = [x0, x1]) :
    parseR s = if kindOf x0 < 0 then (zeroReq, 14) else if kindOf x0 = 0 then (zeroReq, 14) else if kindOf x0 = 4 ∧ x1.size = 0 then (zeroReq, 14) else chkR (kindOf x0) x1 ⟨#[]⟩ := by
  unfold parseR; rw [h]
theorem parse_three (x0 x1 x2 s : ByteArray) (h : piecesOf s = [x0, x1, x2]) :
    parseR s = if kindOf x0 = 0 then (match undigR x2.data.toList with | some u => chkR 0 x1 (SB u) | none => (zeroReq, 14)) else (zeroReq, 14) := by
  unfold parseR; rw [h]
  show (if kindOf x0 = 0 then _ else _) = _
  cases undigR x2.data.toList <;> rfl
theorem parse_many (x0 x1 x2 x3 s : ByteArray) (r : List ByteArray) (h : piecesOf s = x0 :: x1 :: x2 :: x3 :: r) : parseR s = (zeroReq, 14) := by
  unfold parseR; rw [h]
theorem plain_one {a : List UInt8} (ha : ∀ b ∈ a, b ≠ 32) : ∀ p ∈ [a], ∀ b ∈ p, b ≠ 32 := by
  intro p hp
  simp only [List.mem_singleton] at hp
  subst hp; exact ha
theorem plain_two {a c : List UInt8} (ha : ∀ b ∈ a, b ≠ 32) (hc : ∀ b ∈ c, b ≠ 32) : ∀ p ∈ [a, c], ∀ b ∈ p, b ≠ 32 := by
  intro p hp
  simp only [List.mem_cons, List.not_mem_nil, or_false] at hp
  rcases hp with rfl | rfl
  · exact ha
  · exact hc
theorem plain_three {a c d : List UInt8} (ha : ∀ b ∈ a, b ≠ 32) (hc : ∀ b ∈ c, b ≠ 32) (hd : ∀ b ∈ d, b ≠ 32) : ∀ p ∈ [a, c, d], ∀ b ∈ p, b ≠ 32 := by
  intro p hp
  simp only [List.mem_cons, List.not_mem_nil, or_false] at hp
  rcases hp with rfl | rfl | rfl
  · exact ha
  · exact hc
  · exact hd
/-- the parts of a request that may be -/
theorem parts_of {kind : Int} {k v : ByteArray} (h : checkE kind k v = 0) :
    (kind = 0 ∧ keyOk k = true ∧ partsL kind k.data.toList v.data.toList = [wordL 0, k.data.toList, digitsL v.data.toList]) ∨
    (∃ n : Nat, 1 ≤ n ∧ n < 5 ∧ kind = n ∧ v = ⟨#[]⟩ ∧ keyOk k = true ∧ partsL kind k.data.toList v.data.toList = [wordL n, k.data.toList]) ∨
    (kind = 4 ∧ v = ⟨#[]⟩ ∧ k = ⟨#[]⟩ ∧ partsL kind k.data.toList v.data.toList = [wordL 4]) := by
  rcases check_ok h with ⟨rfl, hk⟩ | ⟨hkd, rfl, hk⟩ | ⟨rfl, rfl, rfl⟩
  · refine .inl ⟨rfl, hk, ?_⟩
    unfold partsL
    rw [if_neg (nil_size (key_plain hk).2), if_pos rfl]
    rfl
  · refine .inr (.inl ⟨kind.toNat, by omega, by omega, by omega, rfl, hk, ?_⟩)
    unfold partsL
    rw [if_neg (nil_size (key_plain hk).2), if_neg (by omega)]
    rfl
  · exact .inr (.inr ⟨rfl, rfl, rfl, rfl⟩)
/-- what is printed is parsed as it was -/
theorem back_print {kind : Int} {k v : ByteArray} (h : (printR kind k v).2 = 0) : parseR (printR kind k v).1 = ((kind, k, v), 0) := by
  have hc : checkE kind k v = 0 := by
    unfold printR at h
    split at h
    · assumption
    · exact h
  have hp : (printR kind k v).1 = SB (Lib.join (partsL kind k.data.toList v.data.toList) [32]) := by
    unfold printR; rw [if_pos hc]; rfl
  rw [hp]
  rcases parts_of hc with ⟨rfl, hk, hl⟩ | ⟨n, hn0, hn5, rfl, rfl, hk, hl⟩ | ⟨rfl, rfl, rfl, hl⟩
  · rw [hl, parse_three _ _ _ _ (pieces_join _ _ (plain_three (word_plain 0) (key_plain hk).1 (fun b hb => digits_plain hb))), if_pos (show kindOf (SB (wordL 0)) = 0 from kind_of_word 0 (by decide))]
    show (match undigR (digitsL v.data.toList) with | some u => chkR 0 (SB k.data.toList) (SB u) | none => (zeroReq, 14)) = _
    rw [undig_digits, SB_data]
    show chkR 0 k (SB v.data.toList) = _
    rw [SB_data]
    unfold chkR
    rw [if_pos hc]
  · rw [hl, parse_two _ _ _ (pieces_join _ _ (plain_two (word_plain n) (key_plain hk).1)), kind_of_word n hn5, if_neg (by omega), if_neg (by omega), SB_data, if_neg (fun e => (key_plain hk).2 e.2)]
    unfold chkR
    rw [if_pos hc]
  · rw [hl, parse_one _ _ (pieces_join _ _ (plain_one (word_plain 4))), if_pos (show kindOf (SB (wordL 4)) = 4 from kind_of_word 4 (by decide))]
theorem chk_snd {kind : Int} {k v : ByteArray} (h : (chkR kind k v).2 = 0) : checkE kind k v = 0 ∧ chkR kind k v = ((kind, k, v), 0) := by
  unfold chkR at h ⊢
  split at h
  · rename_i e; exact ⟨e, by rw [if_pos e]⟩
  · rename_i e; exact absurd h e
theorem print_of {kind : Int} {k v : ByteArray} (h : checkE kind k v = 0) : printR kind k v = (SB (Lib.join (partsL kind k.data.toList v.data.toList) [32]), 0) := by
  unfold printR; rw [if_pos h]; rfl
theorem of_pieces (s : ByteArray) (xs : List ByteArray) (h : piecesOf s = xs) : s = SB (Lib.join (xs.map (·.data.toList)) [32]) := by
  rw [← h, pieces_words, join_words, SB_data]
/-- what is parsed is printed as it was -/
theorem back_parse (s : ByteArray) (h : (parseR s).2 = 0) : printR (parseR s).1.1 (parseR s).1.2.1 (parseR s).1.2.2 = (s, 0) := by
  match hx : piecesOf s with
  | [] => have := pieces_len s; rw [hx] at this; cases this
  | [x0] =>
    rw [parse_one x0 s hx] at h ⊢
    by_cases h4 : kindOf x0 = 4
    · rw [if_pos h4]
      have e0 := (kind_word x0 4 (by decide)).2 h4
      have hc : checkE 4 ⟨#[]⟩ ⟨#[]⟩ = 0 := by decide
      show printR 4 ⟨#[]⟩ ⟨#[]⟩ = _
      rw [print_of hc, of_pieces s _ hx, e0]
      rfl
    · rw [if_neg h4] at h; cases h
  | [x0, x1] =>
    rw [parse_two x0 x1 s hx] at h ⊢
    by_cases h0 : kindOf x0 < 0
    · rw [if_pos h0] at h; cases h
    · rw [if_neg h0] at h ⊢
      by_cases h1 : kindOf x0 = 0
      · rw [if_pos h1] at h; cases h
      · rw [if_neg h1] at h ⊢
        by_cases h2 : kindOf x0 = 4 ∧ x1.size = 0
        · rw [if_pos h2] at h; cases h
        · rw [if_neg h2] at h ⊢
          obtain ⟨hc, e⟩ := chk_snd h
          rw [e]
          show printR (kindOf x0) x1 ⟨#[]⟩ = _
          rw [print_of hc, of_pieces s _ hx]
          obtain ⟨n, hn⟩ : ∃ n : Nat, kindOf x0 = n := ⟨(kindOf x0).toNat, by omega⟩
          have hr := (kind_range x0).2
          have e0 := (kind_word x0 n (by omega)).2 hn
          have hx1 : x1.size ≠ 0 := by
            rcases check_ok hc with ⟨h', -⟩ | ⟨-, -, hk⟩ | ⟨h', -, hk⟩
            · exact absurd h' h1
            · exact (key_plain hk).2
            · exact absurd ⟨h', by rw [hk]; rfl⟩ h2
          unfold partsL
          rw [if_neg (nil_size hx1), if_neg h1, hn, e0]
          rfl
  | [x0, x1, x2] =>
    rw [parse_three x0 x1 x2 s hx] at h ⊢
    by_cases h1 : kindOf x0 = 0
    · rw [if_pos h1] at h ⊢
      match hu : undigR x2.data.toList with
      | none => rw [hu] at h; cases h
      | some u =>
        rw [hu] at h
        obtain ⟨hc, e⟩ := chk_snd h
        show printR (chkR 0 x1 (SB u)).1.1 (chkR 0 x1 (SB u)).1.2.1 (chkR 0 x1 (SB u)).1.2.2 = _
        rw [e]
        show printR 0 x1 (SB u) = _
        rw [print_of hc, of_pieces s _ hx]
        have e0 := (kind_word x0 0 (by decide)).2 h1
        have hx1 : x1.size ≠ 0 := by
          rcases check_ok hc with ⟨-, hk⟩ | ⟨h', -, -⟩ | ⟨h', -, -⟩
          · exact (key_plain hk).2
          · omega
          · omega
        unfold partsL
        rw [if_neg (nil_size hx1), if_pos rfl, digits_undig _ u hu, e0]
        rfl
    · rw [if_neg h1] at h; cases h
  | x0 :: x1 :: x2 :: x3 :: r => rw [parse_many x0 x1 x2 x3 s r hx] at h; cases h
theorem parse_err (s : ByteArray) (h : (parseR s).2 ≠ 0) : (parseR s).1 = zeroReq := by
  have chk : ∀ kind k v, (chkR kind k v).2 ≠ 0 → (chkR kind k v).1 = zeroReq := by
    intro kind k v h
    unfold chkR at h ⊢
    split at h
    · exact absurd rfl h
    · rename_i e; rw [if_neg e]
  revert h
  unfold parseR
  split
  · split
    · intro h; exact absurd rfl h
    · intro _; rfl
  · repeat' split
    all_goals first | (intro _; rfl) | exact chk _ _ _
  · split
    · split
      · exact chk _ _ _
      · intro _; rfl
    · intro _; rfl
  · intro _; rfl
/-- two requests that may be have one line just if they are the same -/
theorem apart_print {k1 k2 : Int} {a1 b1 a2 b2 : ByteArray} (h1 : (printR k1 a1 b1).2 = 0) (h2 : (printR k2 a2 b2).2 = 0) :
    (printR k1 a1 b1).1 = (printR k2 a2 b2).1 ↔ (k1 = k2 ∧ a1 = a2 ∧ b1 = b2) := by
  constructor
  · intro e
    have e1 := back_print h1
    have e2 := back_print h2
    rw [e, e2] at e1
    simp only [Prod.mk.injEq, and_true] at e1
    exact ⟨e1.1.symm, e1.2.1.symm, e1.2.2.symm⟩
  · rintro ⟨rfl, rfl, rfl⟩; rfl
theorem word_ne : ∀ n, n < 5 → wordL n ≠ [] := by
  intro n hn
  match n, hn with
  | 0, _ => decide
  | 1, _ => decide
  | 2, _ => decide
  | 3, _ => decide
  | 4, _ => decide
/-- the words of a line of a request that may be -/
theorem words_print {kind : Int} {k v : ByteArray} (h : (printR kind k v).2 = 0) :
    (∀ p ∈ wordsOf (printR kind k v).1.data.toList, p ≠ []) ∧
    (((wordsOf (printR kind k v).1.data.toList).length = 3 ∧ kind = 0) ∨ (wordsOf (printR kind k v).1.data.toList).length = 2 ∨ ((wordsOf (printR kind k v).1.data.toList).length = 1 ∧ kind = 4 ∧ k = ⟨#[]⟩)) := by
  have hc : checkE kind k v = 0 := by
    unfold printR at h
    split at h
    · assumption
    · exact h
  rw [print_of hc]
  show (∀ p ∈ wordsOf (Lib.join (partsL kind k.data.toList v.data.toList) [32]), p ≠ []) ∧ (((wordsOf (Lib.join (partsL kind k.data.toList v.data.toList) [32])).length = 3 ∧ kind = 0) ∨ (wordsOf (Lib.join (partsL kind k.data.toList v.data.toList) [32])).length = 2 ∨ ((wordsOf (Lib.join (partsL kind k.data.toList v.data.toList) [32])).length = 1 ∧ kind = 4 ∧ k = ⟨#[]⟩))
  rcases parts_of hc with ⟨rfl, hk, hl⟩ | ⟨n, hn0, hn5, rfl, rfl, hk, hl⟩ | ⟨rfl, rfl, rfl, hl⟩
  · rw [hl, words_join _ _ (plain_three (word_plain 0) (key_plain hk).1 (fun b hb => digits_plain hb))]
    refine ⟨fun p hp => ?_, .inl ⟨rfl, rfl⟩⟩
    simp only [List.mem_cons, List.not_mem_nil, or_false] at hp
    rcases hp with rfl | rfl | rfl
    · decide
    · exact nil_size (key_plain hk).2
    · exact digits_ne _
  · rw [hl, words_join _ _ (plain_two (word_plain n) (key_plain hk).1)]
    refine ⟨fun p hp => ?_, .inr (.inl rfl)⟩
    simp only [List.mem_cons, List.not_mem_nil, or_false] at hp
    rcases hp with rfl | rfl
    · exact word_ne n hn5
    · exact nil_size (key_plain hk).2
  · rw [hl, words_join _ _ (plain_one (word_plain 4))]
    refine ⟨fun p hp => ?_, .inr (.inr ⟨rfl, rfl, rfl⟩)⟩
    simp only [List.mem_singleton] at hp
    subst hp; decide
theorem print_err {kind : Int} {k v : ByteArray} (h : (printR kind k v).2 ≠ 0) : (printR kind k v).1 = ⟨#[]⟩ := by
  unfold printR at h ⊢
  split at h
  · exact absurd rfl h
  · rename_i e; rw [if_neg e]
theorem print_size (kd : Int) (k v : ByteArray) : (printR kd k v).1.size ≤ k.size + 2 * v.size + 100 := by
  by_cases hc : checkE kd k v = 0
  · rw [print_of hc]
    show (SB (Lib.join (partsL kd k.data.toList v.data.toList) [32])).size ≤ _
    rw [SB_size]
    have hd := digits_len v.data.toList
    rw [len_data] at hd
    rcases parts_of hc with ⟨rfl, hk, hl⟩ | ⟨n, hn0, hn5, rfl, rfl, hk, hl⟩ | ⟨rfl, rfl, rfl, hl⟩
    · have h1 := word_len 0
      rw [hl, join_three]
      simp only [List.length_append, List.length_cons, List.length_nil, len_data]
      omega
    · have h1 := word_len n
      rw [hl, join_two]
      simp only [List.length_append, List.length_cons, List.length_nil, len_data]
      omega
    · rw [hl, Lib.join_one]
      have h1 := word_len 4
      omega
  · unfold printR; rw [if_neg hc]
    show (⟨#[]⟩ : ByteArray).size ≤ _
    have : (⟨#[]⟩ : ByteArray).size = 0 := rfl
    omega
end Go.Proofs.YtmihnakapnoefaaGreatDoor
