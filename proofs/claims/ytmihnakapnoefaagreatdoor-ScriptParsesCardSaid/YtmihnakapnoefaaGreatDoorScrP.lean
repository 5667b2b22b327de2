/-
  Reading a line's words: plain laws, and one part's word.
-/
import Derived.Test.YtmihnakapnoefaaGreatDoorScrM
namespace Go.Proofs.YtmihnakapnoefaaGreatDoor
open Go.RowKit Go.WideShapes

def okP (p : Nat × Nat) (x : ByteArray) : Bool := if p.1 = 0 then (numR x.data.toList).isSome else if p.1 = 1 then (undigR x.data.toList).isSome else (marksR x.data.toList).isSome
def initV (p : Nat × Nat) : Value := if p.1 = 0 then .int .i64 0 else if p.1 = 1 then .string E0 else .slice none 0 0
/-- what a part's cell holds once its word is read -/
def PartVal (W : World) (C : Nat) (p : Nat × Nat) (x : ByteArray) (val : Value) : Prop :=
  if p.1 = 0 then ∃ n : Nat, numR x.data.toList = some n ∧ val = .int .i64 n
  else if p.1 = 1 then ∃ u, undigR x.data.toList = some u ∧ val = .string (SB u)
  else ∃ (m : List Bool) (av : Option Addr) (cv : Nat), marksR x.data.toList = some m ∧ val = .slice av m.length cv ∧ W.ownsRow (C + 1) 4 1 (.slice av m.length cv) m.length (m.map Value.bool)
theorem PartVal.keep {W W' : World} {C : Nat} {p : Nat × Nat} {x : ByteArray} {val : Value} (h : PartVal W C p x val) (k : Kp [C] W W') : PartVal W' C p x val := by
  unfold PartVal at h ⊢
  split
  · rename_i e; rw [if_pos e] at h; exact h
  · rename_i e
    rw [if_neg e] at h
    split
    · rename_i e1; rw [if_pos e1] at h; exact h
    · rename_i e1
      rw [if_neg e1] at h
      obtain ⟨m, av, cv, h1, h2, h3⟩ := h
      exact ⟨m, av, cv, h1, h2, ownsRow_keep h3 k (fun i hi => by simp; omega)⟩
theorem read_part (p : Nat × Nat) (hp : p = (0, 4) ∨ p = (0, 5) ∨ p = (0, 6) ∨ p = (1, 7) ∨ p = (2, 8) ∨ p = (2, 9)) (b : Nat) (cs : Array Value) (t : TypeId) (x : ByteArray) (hs : x.size ≤ 20000) (wz w : World) (hE : Env wz) (kz : Kp [] wz w) (hbz : wz.heap.size ≤ b)
    (hb : w.heap[b]? = some (.cells cs t (0, 0))) (hu : cs[p.2]? = some (initV p)) :
    Calls Tryz.prog 33 #[.agg (tri b p).toArray, .string x] w fun e w' => e = .returned (.bool (okP p x)) ∧ Kp [b] w w' ∧ ∃ val, w'.heap[b]? = some (.cells (cs.setIfInBounds p.2 val) t (0, 0)) ∧ (okP p x = true → PartVal w' b p x val) := by
  rcases hp with e | e | e | e | e | e
  · subst e
    refine (read_num b 4 cs t _ x (by omega) wz w hE kz hbz hb hu).mono ?_
    rintro e w' ⟨h1, h2, v, h3, h4⟩
    refine ⟨h1, h2, _, h3, fun h => ?_⟩
    obtain ⟨n, hn⟩ := Option.isSome_iff_exists.1 (show (numR x.data.toList).isSome = true from h)
    exact ⟨n, hn, congrArg (Value.int IntKind.i64) (h4 n hn)⟩
  · subst e
    refine (read_num b 5 cs t _ x (by omega) wz w hE kz hbz hb hu).mono ?_
    rintro e w' ⟨h1, h2, v, h3, h4⟩
    refine ⟨h1, h2, _, h3, fun h => ?_⟩
    obtain ⟨n, hn⟩ := Option.isSome_iff_exists.1 (show (numR x.data.toList).isSome = true from h)
    exact ⟨n, hn, congrArg (Value.int IntKind.i64) (h4 n hn)⟩
  · subst e
    refine (read_num b 6 cs t _ x (by omega) wz w hE kz hbz hb hu).mono ?_
    rintro e w' ⟨h1, h2, v, h3, h4⟩
    refine ⟨h1, h2, _, h3, fun h => ?_⟩
    obtain ⟨n, hn⟩ := Option.isSome_iff_exists.1 (show (numR x.data.toList).isSome = true from h)
    exact ⟨n, hn, congrArg (Value.int IntKind.i64) (h4 n hn)⟩
  · subst e
    refine (read_text b 7 cs t x hs wz w hE kz hbz hb hu).mono ?_
    rintro e w' ⟨h1, h2, T, h3, h4, h5⟩
    refine ⟨h1, h2, _, h3, fun h => ?_⟩
    obtain ⟨u, hu⟩ := Option.isSome_iff_exists.1 (show (undigR x.data.toList).isSome = true from h)
    exact ⟨u, hu, congrArg Value.string (h5 u hu)⟩
  · subst e
    refine (read_list b 8 cs t x (by omega) wz w hE kz hbz hb hu).mono ?_
    rintro e w' ⟨h1, h2, av, cv, l, h3, h4, h5, h6⟩
    refine ⟨h1, h2, _, h3, fun h => ?_⟩
    obtain ⟨m, hm⟩ := Option.isSome_iff_exists.1 (show (marksR x.data.toList).isSome = true from h)
    have := h6 m hm
    subst this
    exact ⟨l, av, cv, hm, rfl, h4⟩
  · subst e
    refine (read_list b 9 cs t x (by omega) wz w hE kz hbz hb hu).mono ?_
    rintro e w' ⟨h1, h2, av, cv, l, h3, h4, h5, h6⟩
    refine ⟨h1, h2, _, h3, fun h => ?_⟩
    obtain ⟨m, hm⟩ := Option.isSome_iff_exists.1 (show (marksR x.data.toList).isSome = true from h)
    have := h6 m hm
    subst this
    exact ⟨l, av, cv, hm, rfl, h4⟩
/-- cells with values laid over -/
def fillV : List ((Nat × Nat) × Value) → Array Value → Array Value
  | [], x => x
  | q :: qs, x => fillV qs (x.setIfInBounds q.1.2 q.2)
theorem fillV_snoc : ∀ (qs : List ((Nat × Nat) × Value)) (q : (Nat × Nat) × Value) (x : Array Value), fillV (qs ++ [q]) x = (fillV qs x).setIfInBounds q.1.2 q.2
  | [], _, _ => rfl
  | _ :: qs, q, _ => fillV_snoc qs q _
theorem fillV_other : ∀ (qs : List ((Nat × Nat) × Value)) (x : Array Value) (o : Nat), (∀ q ∈ qs, q.1.2 ≠ o) → (fillV qs x)[o]? = x[o]?
  | [], _, _, _ => rfl
  | q :: qs, x, o, h => by
    rw [fillV, fillV_other qs _ o (fun r hr => h r (List.mem_cons_of_mem _ hr)), Array.getElem?_setIfInBounds, if_neg (h q (List.mem_cons_self ..))]
theorem parts_distinct (act : Int) : ((partsK act).map (·.2)).Nodup := by
  unfold partsK
  repeat' split
  all_goals decide
def zeroV (act : Int) : Array Value := #[.int .i64 act, .int .i64 0, .string E0, .string E0, .int .i64 0, .int .i64 0, .int .i64 0, .string E0, .slice none 0 0, .slice none 0 0]
theorem zeroV_init {act : Int} {p : Nat × Nat} (hp : p ∈ partsK act) : (zeroV act)[p.2]? = some (initV p) := by
  rcases part_cases hp with h | h | h | h | h | h <;> (subst h; rfl)
theorem parts_of_act (d : Nat) : partsK (d : Int) = match d with
  | 1 => [(0, 4), (0, 5), (0, 6)] | 2 => [(0, 4)] | 3 => [(0, 4)] | 4 => [(0, 5), (0, 4), (1, 7)] | 5 => [(0, 5)] | 6 => [(0, 5)] | 7 => [(2, 8), (2, 9)] | _ => [] := by
  match d with
  | 0 => rfl
  | 1 => rfl
  | 2 => rfl
  | 3 => rfl
  | 4 => rfl
  | 5 => rfl
  | 6 => rfl
  | 7 => rfl
  | d + 8 => unfold partsK; rw [if_neg (by omega), if_neg (by omega), if_neg (by omega), if_neg (by omega), if_neg (by omega), if_neg (by omega), if_neg (by omega)]; rfl
/-- what is read has as many words as the line's parts, each of which may be read -/
theorem read_some {d : Nat} {r : List ByteArray} {c : Cmd} (h : readC d r = some c) : r.length = (partsK (d : Int)).length ∧ ∀ (i : Nat) (p : Nat × Nat) (x : ByteArray), (partsK (d : Int))[i]? = some p → r[i]? = some x → okP p x = true := by
  rw [parts_of_act]
  unfold readC at h
  have chk3 : ∀ {p q s : Nat × Nat} {x y z : ByteArray}, okP p x = true → okP q y = true → okP s z = true → ∀ (i : Nat) (p' : Nat × Nat) (x' : ByteArray), [p, q, s][i]? = some p' → [x, y, z][i]? = some x' → okP p' x' = true := by
    intro p q s x y z h1 h2 h3 i p' x' e1 e2
    match i, e1, e2 with
    | 0, e1, e2 => cases e1; cases e2; exact h1
    | 1, e1, e2 => cases e1; cases e2; exact h2
    | 2, e1, e2 => cases e1; cases e2; exact h3
  have chk2 : ∀ {p q : Nat × Nat} {x y : ByteArray}, okP p x = true → okP q y = true → ∀ (i : Nat) (p' : Nat × Nat) (x' : ByteArray), [p, q][i]? = some p' → [x, y][i]? = some x' → okP p' x' = true := by
    intro p q x y h1 h2 i p' x' e1 e2
    match i, e1, e2 with
    | 0, e1, e2 => cases e1; cases e2; exact h1
    | 1, e1, e2 => cases e1; cases e2; exact h2
  have chk1 : ∀ {p : Nat × Nat} {x : ByteArray}, okP p x = true → ∀ (i : Nat) (p' : Nat × Nat) (x' : ByteArray), [p][i]? = some p' → [x][i]? = some x' → okP p' x' = true := by
    intro p x h1 i p' x' e1 e2
    match i, e1, e2 with
    | 0, e1, e2 => cases e1; cases e2; exact h1
  split at h
  · split at h
    · rename_i h1 h2 h3
      exact ⟨rfl, chk3 (by unfold okP; rw [if_pos rfl, h1]; rfl) (by unfold okP; rw [if_pos rfl, h2]; rfl) (by unfold okP; rw [if_pos rfl, h3]; rfl)⟩
    · cases h
  · split at h
    · rename_i h1; exact ⟨rfl, chk1 (by unfold okP; rw [if_pos rfl, h1]; rfl)⟩
    · cases h
  · split at h
    · rename_i h1; exact ⟨rfl, chk1 (by unfold okP; rw [if_pos rfl, h1]; rfl)⟩
    · cases h
  · split at h
    · rename_i h1 h2 h3
      exact ⟨rfl, chk3 (by unfold okP; rw [if_pos rfl, h1]; rfl) (by unfold okP; rw [if_pos rfl, h2]; rfl) (by unfold okP; rw [if_neg (by decide), if_pos rfl, h3]; rfl)⟩
    · cases h
  · split at h
    · rename_i h1; exact ⟨rfl, chk1 (by unfold okP; rw [if_pos rfl, h1]; rfl)⟩
    · cases h
  · split at h
    · rename_i h1; exact ⟨rfl, chk1 (by unfold okP; rw [if_pos rfl, h1]; rfl)⟩
    · cases h
  · split at h
    · rename_i h1 h2
      exact ⟨rfl, chk2 (by unfold okP; rw [if_neg (by decide), if_neg (by decide), h1]; rfl) (by unfold okP; rw [if_neg (by decide), if_neg (by decide), h2]; rfl)⟩
    · cases h
  · cases h
/-- all parts are read: the command -/
theorem fill_done {W : World} {C d R : Nat} (hR : R ≤ C) {r : List ByteArray} {vals : List Value} (h1 : 1 ≤ d) (h7 : d < 8) (hr : r.length = (partsK (d : Int)).length) (hv : vals.length = (partsK (d : Int)).length)
    (hp : ∀ (i : Nat) (p : Nat × Nat) (x : ByteArray) (v : Value), (partsK (d : Int))[i]? = some p → r[i]? = some x → vals[i]? = some v → PartVal W C p x v) :
    ∃ (c : Cmd) (kv tv : Value), readC d r = some c ∧ fillV ((partsK (d : Int)).zip vals) (zeroV d) = CmdV c kv tv ∧ ∀ Z, Kp [R] W Z → BoolsAt Z.heap.size Z kv c.keep ∧ BoolsAt Z.heap.size Z tv c.torn := by
  have nilB : ∀ Z, Kp [R] W Z → BoolsAt Z.heap.size Z (.slice none 0 0) [] ∧ BoolsAt Z.heap.size Z (.slice none 0 0) [] := fun Z _ => ⟨⟨rfl, none, 0, rfl, fun h => absurd h (by decide)⟩, ⟨rfl, none, 0, rfl, fun h => absurd h (by decide)⟩⟩
  match d, h1, h7 with
  | 1, _, _ =>
    match r, vals, hr, hv with
    | [x, y, z], [a, b, c], _, _ =>
      obtain ⟨n1, e1, rfl⟩ := hp 0 _ x a rfl rfl rfl
      obtain ⟨n2, e2, rfl⟩ := hp 1 _ y b rfl rfl rfl
      obtain ⟨n3, e3, rfl⟩ := hp 2 _ z c rfl rfl rfl
      exact ⟨⟨1, 0, E0, E0, n1, n2, n3, E0, [], []⟩, _, _, by simp only [readC, e1, e2, e3], rfl, nilB⟩
  | 2, _, _ =>
    match r, vals, hr, hv with
    | [x], [a], _, _ =>
      obtain ⟨n1, e1, rfl⟩ := hp 0 _ x a rfl rfl rfl
      exact ⟨⟨2, 0, E0, E0, n1, 0, 0, E0, [], []⟩, _, _, by simp only [readC, e1], rfl, nilB⟩
  | 3, _, _ =>
    match r, vals, hr, hv with
    | [x], [a], _, _ =>
      obtain ⟨n1, e1, rfl⟩ := hp 0 _ x a rfl rfl rfl
      exact ⟨⟨3, 0, E0, E0, n1, 0, 0, E0, [], []⟩, _, _, by simp only [readC, e1], rfl, nilB⟩
  | 4, _, _ =>
    match r, vals, hr, hv with
    | [x, y, z], [a, b, c], _, _ =>
      obtain ⟨n1, e1, rfl⟩ := hp 0 _ x a rfl rfl rfl
      obtain ⟨n2, e2, rfl⟩ := hp 1 _ y b rfl rfl rfl
      obtain ⟨u, e3, rfl⟩ := hp 2 _ z c rfl rfl rfl
      exact ⟨⟨4, 0, E0, E0, n2, n1, 0, SB u, [], []⟩, _, _, by simp only [readC, e1, e2, e3], rfl, nilB⟩
  | 5, _, _ =>
    match r, vals, hr, hv with
    | [x], [a], _, _ =>
      obtain ⟨n1, e1, rfl⟩ := hp 0 _ x a rfl rfl rfl
      exact ⟨⟨5, 0, E0, E0, 0, n1, 0, E0, [], []⟩, _, _, by simp only [readC, e1], rfl, nilB⟩
  | 6, _, _ =>
    match r, vals, hr, hv with
    | [x], [a], _, _ =>
      obtain ⟨n1, e1, rfl⟩ := hp 0 _ x a rfl rfl rfl
      exact ⟨⟨6, 0, E0, E0, 0, n1, 0, E0, [], []⟩, _, _, by simp only [readC, e1], rfl, nilB⟩
  | 7, _, _ =>
    match r, vals, hr, hv with
    | [x, y], [a, b], _, _ =>
      obtain ⟨m1, a1, c1, e1, rfl, o1⟩ := hp 0 _ x a rfl rfl rfl
      obtain ⟨m2, a2, c2, e2, rfl, o2⟩ := hp 1 _ y b rfl rfl rfl
      exact ⟨⟨7, 0, E0, E0, 0, 0, 0, E0, m1, m2⟩, _, _, by simp only [readC, e1, e2], rfl, fun Z k => ⟨SliceAt.of_owns (ownsRow_keep o1 k (fun i hi => by simp; omega)), SliceAt.of_owns (ownsRow_keep o2 k (fun i hi => by simp; omega))⟩⟩
theorem call_prefix (s : ByteArray) : Lib.hasPrefix s.data.toList [99, 97, 108, 108, 32] = isCall s := by
  unfold isCall Lib.hasPrefix
  rw [Bool.eq_iff_iff, List.isPrefixOf_iff_prefix, decide_eq_true_eq]
  constructor
  · rintro ⟨t, ht⟩; rw [← ht]; simp
  · intro e; exact ⟨s.data.toList.drop 5, by rw [← e, List.take_append_drop]⟩
end Go.Proofs.YtmihnakapnoefaaGreatDoor
