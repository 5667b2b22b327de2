/-
  Commands' lines, in plain Lean: what is printed is parsed as it was, what is parsed is printed as it was; the words of a line.
-/
import Derived.Test.YtmihnakapnoefaaGreatDoorReqK
namespace Go.Proofs.YtmihnakapnoefaaGreatDoor
open Go.RowKit Go.WideShapes

/-- a command -/
structure Cmd where
  act : Int
  rk : Int
  rs : ByteArray
  rv : ByteArray
  n : Int
  a : Int
  b : Int
  text : ByteArray
  keep : List Bool
  torn : List Bool
abbrev E0 : ByteArray := ⟨#[]⟩
def zeroCmd : Cmd := ⟨0, 0, E0, E0, 0, 0, 0, E0, [], []⟩
def sameC (x y : Cmd) : Bool :=
  decide (x.act = y.act) && (decide (x.rk = y.rk) && decide (x.rs = y.rs) && decide (x.rv = y.rv)) && decide (x.n = y.n) && decide (x.a = y.a) && decide (x.b = y.b) && decide (x.text = y.text) && decide (x.keep = y.keep) && decide (x.torn = y.torn)
theorem sameC_iff (x y : Cmd) : sameC x y = true ↔ x = y := by
  unfold sameC
  cases x; cases y
  simp only [Bool.and_eq_true, decide_eq_true_eq, Cmd.mk.injEq]
  constructor
  · rintro ⟨⟨⟨⟨⟨⟨⟨h1, ⟨h2, h3⟩, h4⟩, h5⟩, h6⟩, h7⟩, h8⟩, h9⟩, h10⟩; exact ⟨h1, h2, h3, h4, h5, h6, h7, h8, h9, h10⟩
  · rintro ⟨h1, h2, h3, h4, h5, h6, h7, h8, h9, h10⟩; exact ⟨⟨⟨⟨⟨⟨⟨h1, ⟨h2, h3⟩, h4⟩, h5⟩, h6⟩, h7⟩, h8⟩, h9⟩, h10⟩
/-- a command, without what its line does not have -/
def onlyC (c : Cmd) : Cmd :=
  if c.act = 0 then ⟨0, c.rk, c.rs, c.rv, 0, 0, 0, E0, [], []⟩
  else if c.act = 1 then ⟨1, 0, E0, E0, c.n, c.a, c.b, E0, [], []⟩
  else if c.act = 2 then ⟨2, 0, E0, E0, c.n, 0, 0, E0, [], []⟩
  else if c.act = 3 then ⟨3, 0, E0, E0, c.n, 0, 0, E0, [], []⟩
  else if c.act = 4 then ⟨4, 0, E0, E0, c.n, c.a, 0, c.text, [], []⟩
  else if c.act = 5 then ⟨5, 0, E0, E0, 0, c.a, 0, E0, [], []⟩
  else if c.act = 6 then ⟨6, 0, E0, E0, 0, c.a, 0, E0, [], []⟩
  else if c.act = 7 then ⟨7, 0, E0, E0, 0, 0, 0, E0, c.keep, c.torn⟩
  else ⟨c.act, 0, E0, E0, 0, 0, 0, E0, [], []⟩
def numOk (n : Int) : Bool := decide (0 ≤ n) && decide (n ≤ 99999)
def checkC (c : Cmd) : Int :=
  if c.act < 0 then 1 else if 7 < c.act then 1 else if c.act = 0 ∧ checkE c.rk c.rs c.rv ≠ 0 then checkE c.rk c.rs c.rv
  else if sameC (onlyC c) c && (numOk c.n && numOk c.a && numOk c.b) then 0 else 1
def actWords : List (List UInt8) := [[99, 97, 108, 108], [107, 101, 101, 112], [115, 116, 101, 112], [115, 101, 116, 116, 108, 101], [115, 112, 111, 105, 108], [108, 111, 115, 101], [114, 101, 112, 108, 97, 99, 101], [99, 114, 97, 115, 104]]
def wordA (k : Nat) : List UInt8 := actWords.getD k []
def numL (n : Int) : List UInt8 := Lib.decDigits n.toNat
def marksW (l : List Bool) : List UInt8 := if l = [] then [45] else l.map fun b => if b then 49 else 48
/-- the words of a line -/
def partsC (c : Cmd) : List (List UInt8) :=
  if c.act = 0 then wordA 0 :: partsL c.rk c.rs.data.toList c.rv.data.toList
  else if c.act = 1 then [wordA 1, numL c.n, numL c.a, numL c.b]
  else if c.act = 2 then [wordA 2, numL c.n]
  else if c.act = 3 then [wordA 3, numL c.n]
  else if c.act = 4 then [wordA 4, numL c.a, numL c.n, digitsL c.text.data.toList]
  else if c.act = 5 then [wordA 5, numL c.a]
  else if c.act = 6 then [wordA 6, numL c.a]
  else [wordA 7, marksW c.keep, marksW c.torn]
def lineC (c : Cmd) : List UInt8 := Lib.join (partsC c) [32]
def printC (c : Cmd) : ByteArray × Int := if checkC c = 0 then (SB (lineC c), 0) else (E0, checkC c)
def digVal (l : List UInt8) : Nat := l.foldl (fun n b => 10 * n + (b.toNat - 48)) 0
/-- a number of a word -/
def numR (l : List UInt8) : Option Nat := if digVal l ≤ 99999 ∧ Lib.decDigits (digVal l) = l then some (digVal l) else none
def isMark (b : UInt8) : Bool := b == 48 || b == 49
def marksR (l : List UInt8) : Option (List Bool) := if l = [45] then some [] else if l = [] then none else if l.all isMark then some (l.map fun b => b == 49) else none
/-- what is read of a line's words, the first of which is that of number k -/
def readC (k : Nat) (r : List ByteArray) : Option Cmd :=
  match k, r with
  | 1, [x, y, z] => match numR x.data.toList, numR y.data.toList, numR z.data.toList with
    | some n, some a, some b => some ⟨1, 0, E0, E0, n, a, b, E0, [], []⟩
    | _, _, _ => none
  | 2, [x] => match numR x.data.toList with
    | some n => some ⟨2, 0, E0, E0, n, 0, 0, E0, [], []⟩
    | none => none
  | 3, [x] => match numR x.data.toList with
    | some n => some ⟨3, 0, E0, E0, n, 0, 0, E0, [], []⟩
    | none => none
  | 4, [x, y, z] => match numR x.data.toList, numR y.data.toList, undigR z.data.toList with
    | some a, some n, some t => some ⟨4, 0, E0, E0, n, a, 0, SB t, [], []⟩
    | _, _, _ => none
  | 5, [x] => match numR x.data.toList with
    | some n => some ⟨5, 0, E0, E0, 0, n, 0, E0, [], []⟩
    | none => none
  | 6, [x] => match numR x.data.toList with
    | some n => some ⟨6, 0, E0, E0, 0, n, 0, E0, [], []⟩
    | none => none
  | 7, [x, y] => match marksR x.data.toList, marksR y.data.toList with
    | some k, some t => some ⟨7, 0, E0, E0, 0, 0, 0, E0, k, t⟩
    | _, _ => none
  | _, _ => none
/-- which word of a line it is, from 1 on; 0: none -/
def actOf (x : ByteArray) : Nat :=
  if x = SB (wordA 1) then 1 else if x = SB (wordA 2) then 2 else if x = SB (wordA 3) then 3 else if x = SB (wordA 4) then 4 else if x = SB (wordA 5) then 5 else if x = SB (wordA 6) then 6 else if x = SB (wordA 7) then 7 else 0
def isCall (s : ByteArray) : Bool := decide (s.data.toList.take 5 = [99, 97, 108, 108, 32])
def reqCmd (r : ReqD) : Cmd := ⟨0, r.1, r.2.1, r.2.2, 0, 0, 0, E0, [], []⟩
def okOr : Option Cmd → Cmd × Int
  | some c => (c, 0)
  | none => (zeroCmd, 14)
def parseC (s : ByteArray) : Cmd × Int :=
  if isCall s then (reqCmd (parseR (SB (s.data.toList.drop 5))).1, (parseR (SB (s.data.toList.drop 5))).2)
  else match piecesOf s with
    | x0 :: r => okOr (readC (actOf x0) r)
    | [] => (zeroCmd, 14)

theorem digVal_snoc (l : List UInt8) (b : UInt8) : digVal (l ++ [b]) = 10 * digVal l + (b.toNat - 48) := by
  unfold digVal; rw [List.foldl_append]; rfl
theorem dec_small (n : Nat) (h : n < 10) : Lib.decDigits n = [UInt8.ofNat (48 + n)] := by rw [Lib.decDigits, dif_pos h]
theorem dec_step (n : Nat) (h : ¬ n < 10) : Lib.decDigits n = Lib.decDigits (n / 10) ++ [UInt8.ofNat (48 + n % 10)] := by rw [Lib.decDigits, dif_neg h]
theorem dig_toNat (d : Nat) (h : d < 10) : (UInt8.ofNat (48 + d)).toNat = 48 + d := by rw [UInt8.toNat_ofNat']; omega
theorem digVal_dec (n : Nat) : digVal (Lib.decDigits n) = n := by
  by_cases h : n < 10
  · rw [dec_small n h]
    show 10 * 0 + ((UInt8.ofNat (48 + n)).toNat - 48) = n
    rw [dig_toNat n h]; omega
  · rw [dec_step n h, digVal_snoc, digVal_dec (n / 10), dig_toNat _ (by omega)]
    omega
termination_by n
decreasing_by omega
theorem dec_digit (n : Nat) : ∀ b ∈ Lib.decDigits n, 48 ≤ b.toNat ∧ b.toNat ≤ 57 := by
  by_cases h : n < 10
  · rw [dec_small n h]
    intro b hb
    simp only [List.mem_singleton] at hb
    subst hb
    rw [dig_toNat n h]; omega
  · rw [dec_step n h]
    intro b hb
    rw [List.mem_append] at hb
    rcases hb with hb | hb
    · exact dec_digit (n / 10) b hb
    · simp only [List.mem_singleton] at hb
      subst hb
      rw [dig_toNat _ (by omega)]; omega
termination_by n
decreasing_by omega
theorem dec_ne (n : Nat) : Lib.decDigits n ≠ [] := by
  by_cases h : n < 10
  · rw [dec_small n h]; simp
  · rw [dec_step n h]; simp
theorem dec_plain (n : Nat) : ∀ b ∈ Lib.decDigits n, b ≠ 32 := by
  rintro b hb rfl
  have := dec_digit n 32 hb
  exact absurd this (by decide)
theorem numR_dec (n : Nat) (h : n ≤ 99999) : numR (Lib.decDigits n) = some n := by
  unfold numR; rw [digVal_dec, if_pos ⟨h, rfl⟩]
theorem numR_some {l : List UInt8} {n : Nat} (h : numR l = some n) : n ≤ 99999 ∧ Lib.decDigits n = l := by
  unfold numR at h
  split at h
  · rename_i e
    cases h; exact e
  · cases h
theorem numR_none {l : List UInt8} (h : numR l = none) (n : Nat) (hn : n ≤ 99999) : Lib.decDigits n ≠ l := by
  rintro rfl
  rw [numR_dec n hn] at h; cases h
theorem marks_back (l : List Bool) : marksR (marksW l) = some l := by
  unfold marksW
  by_cases h : l = []
  · subst h; rfl
  · rw [if_neg h]
    unfold marksR
    have h1 : (l.map fun b => if b then (49 : UInt8) else 48) ≠ [45] := by
      intro e
      match l, e with
      | [true], e => cases e
      | [false], e => cases e
    have h2 : (l.map fun b => if b then (49 : UInt8) else 48) ≠ [] := by simp [h]
    have h3 : (l.map fun b => if b then (49 : UInt8) else 48).all isMark = true := by
      rw [List.all_map, List.all_eq_true]
      intro b _
      cases b <;> rfl
    rw [if_neg h1, if_neg h2, if_pos h3, List.map_map]
    congr 1
    conv => rhs; rw [← List.map_id l]
    exact List.map_congr_left (fun b _ => by cases b <;> rfl)
theorem marks_some {l : List UInt8} {m : List Bool} (h : marksR l = some m) : marksW m = l := by
  unfold marksR at h
  split at h
  · rename_i e; cases h; rw [e]; rfl
  · split at h
    · cases h
    · split at h
      · rename_i h1 h2 h3
        cases h
        unfold marksW
        rw [if_neg (by simp [h2]), List.map_map]
        conv => rhs; rw [← List.map_id l]
        refine List.map_congr_left (fun b hb => ?_)
        have := List.all_eq_true.1 h3 b hb
        unfold isMark at this
        simp only [Bool.or_eq_true, beq_iff_eq] at this
        rcases this with rfl | rfl <;> rfl
      · cases h
theorem marks_plain (l : List Bool) : ∀ b ∈ marksW l, b ≠ 32 := by
  unfold marksW
  split
  · decide
  · intro b hb
    obtain ⟨x, -, rfl⟩ := List.mem_map.1 hb
    cases x <;> decide
theorem marks_ne (l : List Bool) : marksW l ≠ [] := by
  unfold marksW
  split
  · simp
  · rename_i h; simp [h]
theorem act_plain : ∀ k, k < 8 → ∀ b ∈ wordA k, b ≠ 32 := by
  intro k hk
  match k, hk with
  | 0, _ => decide
  | 1, _ => decide
  | 2, _ => decide
  | 3, _ => decide
  | 4, _ => decide
  | 5, _ => decide
  | 6, _ => decide
  | 7, _ => decide
theorem act_ne : ∀ k, k < 8 → wordA k ≠ [] := by
  intro k hk
  match k, hk with
  | 0, _ => decide
  | 1, _ => decide
  | 2, _ => decide
  | 3, _ => decide
  | 4, _ => decide
  | 5, _ => decide
  | 6, _ => decide
  | 7, _ => decide
theorem actOf_word : ∀ k, 1 ≤ k → k < 8 → actOf (SB (wordA k)) = k := by
  intro k h1 hk
  match k, h1, hk with
  | 1, _, _ => decide
  | 2, _, _ => decide
  | 3, _, _ => decide
  | 4, _, _ => decide
  | 5, _, _ => decide
  | 6, _, _ => decide
  | 7, _, _ => decide
theorem actOf_eq {x : ByteArray} {k : Nat} (h : actOf x = k) (hk : k ≠ 0) : x = SB (wordA k) ∧ k < 8 := by
  unfold actOf at h
  repeat' (first | (split at h; · (rename_i e; subst h; exact ⟨e, by decide⟩)))
  exact absurd h.symm hk
theorem actOf_iff (x : ByteArray) (k : Nat) (h1 : 1 ≤ k) (hk : k < 8) : x = SB (wordA k) ↔ actOf x = k :=
  ⟨fun e => e ▸ actOf_word k h1 hk, fun e => (actOf_eq e (by omega)).1⟩
theorem partsL_ne (k : Int) (a b : List UInt8) : partsL k a b ≠ [] := by unfold partsL; simp
theorem join_cons_ne (x : List UInt8) {r : List (List UInt8)} (h : r ≠ []) : Lib.join (x :: r) [32] = x ++ 32 :: Lib.join r [32] := by
  match r, h with
  | y :: r, _ =>
    rw [Lib.join_cons, Lib.join_cons]
    simp [Lib.joinTail]
theorem line_call (c : Cmd) (h : c.act = 0) : lineC c = [99, 97, 108, 108, 32] ++ printL c.rk c.rs.data.toList c.rv.data.toList := by
  unfold lineC partsC
  rw [if_pos h, join_cons_ne _ (partsL_ne _ _ _)]
  rfl
/-- what a command that may be is -/
theorem checkC_ok {c : Cmd} (h : checkC c = 0) :
    (c.act = 0 ∧ checkE c.rk c.rs c.rv = 0 ∧ c = ⟨0, c.rk, c.rs, c.rv, 0, 0, 0, E0, [], []⟩) ∨
    (c = ⟨1, 0, E0, E0, c.n, c.a, c.b, E0, [], []⟩ ∧ numOk c.n = true ∧ numOk c.a = true ∧ numOk c.b = true) ∨
    (c = ⟨2, 0, E0, E0, c.n, 0, 0, E0, [], []⟩ ∧ numOk c.n = true) ∨ (c = ⟨3, 0, E0, E0, c.n, 0, 0, E0, [], []⟩ ∧ numOk c.n = true) ∨
    (c = ⟨4, 0, E0, E0, c.n, c.a, 0, c.text, [], []⟩ ∧ numOk c.n = true ∧ numOk c.a = true) ∨
    (c = ⟨5, 0, E0, E0, 0, c.a, 0, E0, [], []⟩ ∧ numOk c.a = true) ∨ (c = ⟨6, 0, E0, E0, 0, c.a, 0, E0, [], []⟩ ∧ numOk c.a = true) ∨
    (c = ⟨7, 0, E0, E0, 0, 0, 0, E0, c.keep, c.torn⟩) := by
  unfold checkC at h
  split at h
  · cases h
  · split at h
    · cases h
    · split at h
      · rename_i e; exact absurd h e.2
      · rename_i h1 h2 h3
        split at h
        · rename_i h4
          simp only [Bool.and_eq_true] at h4
          obtain ⟨h5, ⟨h6, h7⟩, h8⟩ := h4
          have h9 := (sameC_iff _ _).1 h5
          unfold onlyC at h9
          by_cases a0 : c.act = 0
          · rw [if_pos a0] at h9
            exact .inl ⟨a0, Classical.byContradiction fun e => h3 ⟨a0, e⟩, h9.symm⟩
          rw [if_neg a0] at h9
          by_cases a1 : c.act = 1
          · rw [if_pos a1] at h9; exact .inr (.inl ⟨h9.symm, h6, h7, h8⟩)
          rw [if_neg a1] at h9
          by_cases a2 : c.act = 2
          · rw [if_pos a2] at h9; exact .inr (.inr (.inl ⟨h9.symm, h6⟩))
          rw [if_neg a2] at h9
          by_cases a3 : c.act = 3
          · rw [if_pos a3] at h9; exact .inr (.inr (.inr (.inl ⟨h9.symm, h6⟩)))
          rw [if_neg a3] at h9
          by_cases a4 : c.act = 4
          · rw [if_pos a4] at h9; exact .inr (.inr (.inr (.inr (.inl ⟨h9.symm, h6, h7⟩))))
          rw [if_neg a4] at h9
          by_cases a5 : c.act = 5
          · rw [if_pos a5] at h9; exact .inr (.inr (.inr (.inr (.inr (.inl ⟨h9.symm, h7⟩)))))
          rw [if_neg a5] at h9
          by_cases a6 : c.act = 6
          · rw [if_pos a6] at h9; exact .inr (.inr (.inr (.inr (.inr (.inr (.inl ⟨h9.symm, h7⟩))))))
          rw [if_neg a6] at h9
          by_cases a7 : c.act = 7
          · rw [if_pos a7] at h9; exact .inr (.inr (.inr (.inr (.inr (.inr (.inr h9.symm))))))
          omega
        · cases h
theorem num_back {n : Int} (h : numOk n = true) : numR (numL n) = some n.toNat ∧ ((n.toNat : Nat) : Int) = n := by
  unfold numOk at h
  simp only [Bool.and_eq_true, decide_eq_true_eq] at h
  exact ⟨numR_dec _ (by omega), by omega⟩
theorem num_plain (n : Int) : ∀ b ∈ numL n, b ≠ 32 := dec_plain _
theorem not_call {x : List UInt8} {r : List (List UInt8)} (k : Nat) (h1 : 1 ≤ k) (hk : k < 8) (hx : x = wordA k) : isCall (SB (Lib.join (x :: r) [32])) = false := by
  subst hx
  unfold isCall
  rw [decide_eq_false_iff_not]
  intro e
  have e1 := congrArg (List.take 2) e
  rw [List.take_take, Lib.join_cons] at e1
  change List.take 2 (wordA k ++ _) = [99, 97] at e1
  match k, h1, hk, e1 with
  | 1, _, _, e1 => cases e1
  | 2, _, _, e1 => cases e1
  | 3, _, _, e1 => cases e1
  | 4, _, _, e1 => cases e1
  | 5, _, _, e1 => cases e1
  | 6, _, _, e1 => cases e1
  | 7, _, _, e1 => cases e1
theorem parse_word {k : Nat} {r : List (List UInt8)} (h1 : 1 ≤ k) (hk : k < 8) (hp : ∀ p ∈ r, ∀ b ∈ p, b ≠ 32) : parseC (SB (Lib.join (wordA k :: r) [32])) = okOr (readC k (r.map SB)) := by
  unfold parseC
  rw [if_neg (by rw [not_call k h1 hk rfl]; simp), pieces_join _ _ (by
    intro p hm
    rcases List.mem_cons.1 hm with rfl | hm
    · exact act_plain k hk
    · exact hp p hm)]
  show okOr (readC (actOf (SB (wordA k))) (r.map SB)) = _
  rw [actOf_word k h1 hk]
theorem checkC_call {c : Cmd} (_h0 : c.act = 0) (he : checkE c.rk c.rs c.rv = 0) : printR c.rk c.rs c.rv = (SB (printL c.rk c.rs.data.toList c.rv.data.toList), 0) := by
  unfold printR; rw [if_pos he]
/-- what is printed is parsed as it was -/
theorem back_printC {c : Cmd} (h : checkC c = 0) : parseC (SB (lineC c)) = (c, 0) := by
  rcases checkC_ok h with ⟨h0, he, hc⟩ | ⟨hc, h1, h2, h3⟩ | ⟨hc, h1⟩ | ⟨hc, h1⟩ | ⟨hc, h1, h2⟩ | ⟨hc, h1⟩ | ⟨hc, h1⟩ | hc
  · rw [line_call c h0]
    unfold parseC
    rw [if_pos (by unfold isCall; simp)]
    have hb := back_print (kind := c.rk) (k := c.rs) (v := c.rv) (by rw [checkC_call h0 he])
    rw [checkC_call h0 he] at hb
    have hd : (SB ([99, 97, 108, 108, 32] ++ printL c.rk c.rs.data.toList c.rv.data.toList)).data.toList.drop 5 = printL c.rk c.rs.data.toList c.rv.data.toList := by simp
    rw [hd]
    show (reqCmd (parseR (SB _)).1, (parseR (SB _)).2) = _
    rw [hb]
    show (reqCmd (c.rk, c.rs, c.rv), (0 : Int)) = _
    conv => rhs; rw [hc]
    rfl
  · obtain ⟨b1, e1⟩ := num_back h1
    obtain ⟨b2, e2⟩ := num_back h2
    obtain ⟨b3, e3⟩ := num_back h3
    have hl : lineC c = Lib.join (wordA 1 :: [numL c.n, numL c.a, numL c.b]) [32] := by unfold lineC partsC; rw [hc]; rfl
    rw [hl, parse_word (by decide) (by decide) (plain_three (num_plain _) (num_plain _) (num_plain _))]
    show okOr (readC 1 [SB (numL c.n), SB (numL c.a), SB (numL c.b)]) = _
    simp only [readC, b1, b2, b3, okOr, e1, e2, e3]
    rw [← hc]
  · obtain ⟨b1, e1⟩ := num_back h1
    have hl : lineC c = Lib.join (wordA 2 :: [numL c.n]) [32] := by unfold lineC partsC; rw [hc]; rfl
    rw [hl, parse_word (by decide) (by decide) (plain_one (num_plain _))]
    show okOr (readC 2 [SB (numL c.n)]) = _
    simp only [readC, b1, okOr, e1]
    rw [← hc]
  · obtain ⟨b1, e1⟩ := num_back h1
    have hl : lineC c = Lib.join (wordA 3 :: [numL c.n]) [32] := by unfold lineC partsC; rw [hc]; rfl
    rw [hl, parse_word (by decide) (by decide) (plain_one (num_plain _))]
    show okOr (readC 3 [SB (numL c.n)]) = _
    simp only [readC, b1, okOr, e1]
    rw [← hc]
  · obtain ⟨b1, e1⟩ := num_back h1
    obtain ⟨b2, e2⟩ := num_back h2
    have hl : lineC c = Lib.join (wordA 4 :: [numL c.a, numL c.n, digitsL c.text.data.toList]) [32] := by unfold lineC partsC; rw [hc]; rfl
    rw [hl, parse_word (by decide) (by decide) (plain_three (num_plain _) (num_plain _) (fun b hb => digits_plain hb))]
    show okOr (readC 4 [SB (numL c.a), SB (numL c.n), SB (digitsL c.text.data.toList)]) = _
    simp only [readC, b1, b2, undig_digits, okOr, e1, e2, SB_data]
    rw [← hc]
  · obtain ⟨b1, e1⟩ := num_back h1
    have hl : lineC c = Lib.join (wordA 5 :: [numL c.a]) [32] := by unfold lineC partsC; rw [hc]; rfl
    rw [hl, parse_word (by decide) (by decide) (plain_one (num_plain _))]
    show okOr (readC 5 [SB (numL c.a)]) = _
    simp only [readC, b1, okOr, e1]
    rw [← hc]
  · obtain ⟨b1, e1⟩ := num_back h1
    have hl : lineC c = Lib.join (wordA 6 :: [numL c.a]) [32] := by unfold lineC partsC; rw [hc]; rfl
    rw [hl, parse_word (by decide) (by decide) (plain_one (num_plain _))]
    show okOr (readC 6 [SB (numL c.a)]) = _
    simp only [readC, b1, okOr, e1]
    rw [← hc]
  · have hl : lineC c = Lib.join (wordA 7 :: [marksW c.keep, marksW c.torn]) [32] := by unfold lineC partsC; rw [hc]; rfl
    rw [hl, parse_word (by decide) (by decide) (plain_two (marks_plain _) (marks_plain _))]
    show okOr (readC 7 [SB (marksW c.keep), SB (marksW c.torn)]) = _
    simp only [readC, marks_back, okOr]
    rw [← hc]
theorem numL_of {l : List UInt8} {n : Nat} (h : numR l = some n) : numL (n : Int) = l ∧ numOk (n : Int) = true := by
  obtain ⟨h1, h2⟩ := numR_some h
  exact ⟨h2, by unfold numOk; simp; omega⟩
theorem read_ok {k : Nat} {r : List ByteArray} {c : Cmd} (h : readC k r = some c) : checkC c = 0 ∧ partsC c = wordA k :: r.map (·.data.toList) := by
  unfold readC at h
  have num0 : numOk 0 = true := by decide
  split at h
  · split at h
    · rename_i x y z n a b h1 h2 h3
      cases h
      obtain ⟨l1, o1⟩ := numL_of h1
      obtain ⟨l2, o2⟩ := numL_of h2
      obtain ⟨l3, o3⟩ := numL_of h3
      refine ⟨?_, ?_⟩
      · show (if sameC _ _ && (numOk _ && numOk _ && numOk _) then (0 : Int) else 1) = 0
        rw [o1, o2, o3, (sameC_iff _ _).2 (by rfl)]; rfl
      · show [wordA 1, numL _, numL _, numL _] = _
        rw [l1, l2, l3]; rfl
    · cases h
  · split at h
    · rename_i x n h1
      cases h
      obtain ⟨l1, o1⟩ := numL_of h1
      refine ⟨?_, ?_⟩
      · show (if sameC _ _ && (numOk _ && numOk _ && numOk _) then (0 : Int) else 1) = 0
        rw [o1, (sameC_iff _ _).2 (by rfl)]; rfl
      · show [wordA 2, numL _] = _
        rw [l1]; rfl
    · cases h
  · split at h
    · rename_i x n h1
      cases h
      obtain ⟨l1, o1⟩ := numL_of h1
      refine ⟨?_, ?_⟩
      · show (if sameC _ _ && (numOk _ && numOk _ && numOk _) then (0 : Int) else 1) = 0
        rw [o1, (sameC_iff _ _).2 (by rfl)]; rfl
      · show [wordA 3, numL _] = _
        rw [l1]; rfl
    · cases h
  · split at h
    · rename_i x y z a n t h1 h2 h3
      cases h
      obtain ⟨l1, o1⟩ := numL_of h1
      obtain ⟨l2, o2⟩ := numL_of h2
      refine ⟨?_, ?_⟩
      · show (if sameC _ _ && (numOk _ && numOk _ && numOk _) then (0 : Int) else 1) = 0
        rw [o1, o2, (sameC_iff _ _).2 (by rfl)]; rfl
      · show [wordA 4, numL _, numL _, digitsL _] = _
        have e3 := digits_undig _ _ h3
        rw [l1, l2]
        show [wordA 4, _, _, digitsL t] = _
        rw [e3]; rfl
    · cases h
  · split at h
    · rename_i x n h1
      cases h
      obtain ⟨l1, o1⟩ := numL_of h1
      refine ⟨?_, ?_⟩
      · show (if sameC _ _ && (numOk _ && numOk _ && numOk _) then (0 : Int) else 1) = 0
        rw [o1, (sameC_iff _ _).2 (by rfl)]; rfl
      · show [wordA 5, numL _] = _
        rw [l1]; rfl
    · cases h
  · split at h
    · rename_i x n h1
      cases h
      obtain ⟨l1, o1⟩ := numL_of h1
      refine ⟨?_, ?_⟩
      · show (if sameC _ _ && (numOk _ && numOk _ && numOk _) then (0 : Int) else 1) = 0
        rw [o1, (sameC_iff _ _).2 (by rfl)]; rfl
      · show [wordA 6, numL _] = _
        rw [l1]; rfl
    · cases h
  · split at h
    · rename_i x y k t h1 h2
      cases h
      refine ⟨?_, ?_⟩
      · show (if sameC _ _ && (numOk _ && numOk _ && numOk _) then (0 : Int) else 1) = 0
        rw [(sameC_iff _ _).2 (by rfl)]; rfl
      · show [wordA 7, marksW _, marksW _] = _
        rw [marks_some h1, marks_some h2]; rfl
    · cases h
  · cases h
theorem read_zero (r : List ByteArray) : readC 0 r = none := by
  unfold readC; split <;> first | rfl | (rename_i h; cases h) | simp_all
/-- what is parsed is printed as it was -/
theorem back_parseC (s : ByteArray) (h : (parseC s).2 = 0) : checkC (parseC s).1 = 0 ∧ SB (lineC (parseC s).1) = s := by
  unfold parseC at h ⊢
  cases hc : isCall s with
  | true =>
    rw [hc, if_pos rfl] at h
    rw [if_pos rfl]
    have hb := back_parse _ h
    obtain ⟨⟨⟨rk, rs, rv⟩, re⟩, hp⟩ : ∃ p, p = parseR (SB (s.data.toList.drop 5)) := ⟨_, rfl⟩
    rw [← hp] at hb h ⊢
    show checkC (reqCmd (rk, rs, rv)) = 0 ∧ SB (lineC (reqCmd (rk, rs, rv))) = s
    have he : checkE rk rs rv = 0 := by
      have h2 := congrArg Prod.snd hb
      simp only at h2
      unfold printR at h2
      split at h2
      · assumption
      · exact h2
    refine ⟨?_, ?_⟩
    · unfold checkC reqCmd
      simp only
      rw [if_neg (by decide), if_neg (by decide), if_neg (fun e => e.2 he), (sameC_iff _ _).2 (by rfl)]
      rfl
    · rw [line_call _ rfl]
      show SB ([99, 97, 108, 108, 32] ++ printL rk rs.data.toList rv.data.toList) = s
      have h1 := congrArg Prod.fst hb
      simp only at h1
      unfold printR at h1
      rw [if_pos he] at h1
      have h3 : printL rk rs.data.toList rv.data.toList = s.data.toList.drop 5 := by
        have := congrArg (fun x : ByteArray => x.data.toList) h1
        simpa using this
      have h4 : s.data.toList.take 5 = [99, 97, 108, 108, 32] := by unfold isCall at hc; simpa using hc
      rw [h3, ← h4, List.take_append_drop, SB_data]
  | false =>
    rw [hc, if_neg (by simp)] at h
    rw [if_neg (by simp)]
    match hx : piecesOf s with
    | [] => rw [hx] at h; cases h
    | x0 :: r =>
      rw [hx] at h
      simp only at h ⊢
      cases hr : readC (actOf x0) r with
      | none => rw [hr] at h; cases h
      | some c =>
        show checkC c = 0 ∧ SB (lineC c) = s
        obtain ⟨h1, h2⟩ := read_ok hr
        refine ⟨h1, ?_⟩
        have h0 : actOf x0 ≠ 0 := by
          intro e
          rw [e, read_zero] at hr; cases hr
        obtain ⟨e0, -⟩ := actOf_eq (x := x0) rfl h0
        have hs := of_pieces s _ hx
        unfold lineC
        rw [h2, hs]
        congr 2
        rw [List.map_cons]
        congr 1
        conv => rhs; rw [e0]
theorem parseC_err (s : ByteArray) (h : (parseC s).2 ≠ 0) : (parseC s).1 = zeroCmd := by
  unfold parseC at h ⊢
  cases hc : isCall s with
  | true =>
    rw [hc, if_pos rfl] at h
    rw [if_pos rfl]
    show reqCmd _ = _
    rw [parse_err _ h]; rfl
  | false =>
    rw [hc, if_neg (by simp)] at h
    rw [if_neg (by simp)]
    match hx : piecesOf s with
    | [] => rfl
    | x0 :: r =>
      rw [hx] at h
      simp only at h ⊢
      cases hr : readC (actOf x0) r with
      | none => rfl
      | some c => rw [hr] at h; exact absurd rfl h
theorem printC_ok {c : Cmd} (h : (printC c).2 = 0) : checkC c = 0 ∧ printC c = (SB (lineC c), 0) := by
  unfold printC at h ⊢
  split at h
  · rename_i e; exact ⟨e, by rw [if_pos e]⟩
  · rename_i e; exact absurd h e
theorem printC_err {c : Cmd} (h : (printC c).2 ≠ 0) : (printC c).1 = E0 := by
  unfold printC at h ⊢
  split at h
  · exact absurd rfl h
  · rename_i e; rw [if_neg e]
/-- two commands that may be have one line just if they are the same -/
theorem line_inj {x y : Cmd} (hx : checkC x = 0) (hy : checkC y = 0) : SB (lineC x) = SB (lineC y) ↔ x = y := by
  constructor
  · intro e
    have e1 := back_printC hx
    rw [e, back_printC hy] at e1
    exact (congrArg Prod.fst e1).symm
  · rintro rfl; rfl
end Go.Proofs.YtmihnakapnoefaaGreatDoor
