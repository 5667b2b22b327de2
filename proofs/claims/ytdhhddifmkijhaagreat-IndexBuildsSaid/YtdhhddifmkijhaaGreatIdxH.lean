/-
  An index, in plain Lean, and where it lies; New, Known, Get, Next.
-/
import Derived.Test.YtdhhddifmkijhaaGreatP2
import Derived.Test.YtdhhddifmkijhaaGreatRow
namespace Go.Proofs.YtdhhddifmkijhaaGreat
open Go.RowKit Go.ChangeMaps Go.Maps Go.WideShapes Go.WideMaps Go.WideElems Go.MapKept Go.ChangeShapes

section
variable {α β : Type} [DecidableEq α]
def aGet (k : α) : List (α × β) → Option β
  | [] => none
  | p :: r => if p.1 = k then some p.2 else aGet k r
def aPut (k : α) (v : β) : List (α × β) → List (α × β)
  | [] => [(k, v)]
  | p :: r => if p.1 = k then (k, v) :: r else p :: aPut k v r
def aDel (k : α) : List (α × β) → List (α × β)
  | [] => []
  | p :: r => if p.1 = k then r else p :: aDel k r
def addS (l : List α) (a : α) : List α := if a ∈ l then l else l ++ [a]
def has (l : List α) (a : α) : Bool := decide (a ∈ l)
theorem kGet_map (f : β → Value) (k : α) : ∀ l : List (α × β), kGet k (l.map fun p => (p.1, f p.2)) = (aGet k l).map f
  | [] => rfl
  | p :: r => by
    simp only [List.map_cons, kGet, aGet, kGet_map f k r]
    split <;> rfl
theorem kPut_map (f : β → Value) (k : α) (v : β) : ∀ l : List (α × β), kPut k (f v) (l.map fun p => (p.1, f p.2)) = (aPut k v l).map fun p => (p.1, f p.2)
  | [] => rfl
  | p :: r => by
    simp only [List.map_cons, kPut, aPut, kPut_map f k v r]
    split <;> rfl
theorem kDel_map (f : β → Value) (k : α) : ∀ l : List (α × β), kDel k (l.map fun p => (p.1, f p.2)) = (aDel k l).map fun p => (p.1, f p.2)
  | [] => rfl
  | p :: r => by
    simp only [List.map_cons, kDel, aDel, kDel_map f k r]
    split <;> rfl
theorem kGet_set (v : Value) (k : α) (l : List α) : kGet k (l.map fun a => (a, v)) = if k ∈ l then some v else none := by
  induction l with
  | nil => rfl
  | cons a r ih =>
    simp only [List.map_cons, kGet, ih, List.mem_cons]
    by_cases h : a = k
    · subst h; simp
    · have h2 : ¬ k = a := fun e => h e.symm
      simp [h, h2]
theorem kPut_set (v : Value) (k : α) (l : List α) : kPut k v (l.map fun a => (a, v)) = (addS l k).map fun a => (a, v) := by
  unfold addS
  induction l with
  | nil => rfl
  | cons x r ih =>
    simp only [List.map_cons, kPut]
    by_cases h : x = k
    · subst h
      simp
    · rw [if_neg h, ih]
      have h2 : ¬ k = x := fun e => h e.symm
      simp only [List.mem_cons, h2, false_or]
      split <;> simp
theorem aGet_vals {γ : Type} (g : β → γ) (k : α) : ∀ l : List (α × β), aGet k (l.map fun p => (p.1, g p.2)) = (aGet k l).map g
  | [] => rfl
  | p :: r => by
    simp only [List.map_cons, aGet, aGet_vals g k r]
    split <;> rfl
theorem aPut_vals {γ : Type} (g : β → γ) (k : α) (v : β) : ∀ l : List (α × β), aPut k (g v) (l.map fun p => (p.1, g p.2)) = (aPut k v l).map fun p => (p.1, g p.2)
  | [] => rfl
  | p :: r => by
    simp only [List.map_cons, aPut, aPut_vals g k v r]
    split <;> rfl
theorem aDel_vals {γ : Type} (g : β → γ) (k : α) : ∀ l : List (α × β), aDel k (l.map fun p => (p.1, g p.2)) = (aDel k l).map fun p => (p.1, g p.2)
  | [] => rfl
  | p :: r => by
    simp only [List.map_cons, aDel, aDel_vals g k r]
    split <;> rfl
theorem aGet_mem {k : α} {v : β} : ∀ {l : List (α × β)}, aGet k l = some v → (k, v) ∈ l
  | [], h => by cases h
  | p :: r, h => by
    unfold aGet at h
    split at h
    · rename_i e
      cases h
      subst e
      exact List.mem_cons_self ..
    · exact List.mem_cons_of_mem _ (aGet_mem h)
theorem aPut_mem {k : α} {v : β} {q : α × β} : ∀ {l : List (α × β)}, q ∈ aPut k v l → q = (k, v) ∨ q ∈ l
  | [], h => by simpa [aPut] using h
  | p :: r, h => by
    unfold aPut at h
    split at h
    · rcases List.mem_cons.1 h with h | h
      · exact .inl h
      · exact .inr (List.mem_cons_of_mem _ h)
    · rcases List.mem_cons.1 h with h | h
      · exact .inr (h ▸ List.mem_cons_self ..)
      · rcases aPut_mem h with h | h
        · exact .inl h
        · exact .inr (List.mem_cons_of_mem _ h)
theorem aDel_mem {k : α} {q : α × β} : ∀ {l : List (α × β)}, q ∈ aDel k l → q ∈ l
  | [], h => h
  | p :: r, h => by
    unfold aDel at h
    split at h
    · exact List.mem_cons_of_mem _ h
    · rcases List.mem_cons.1 h with h | h
      · exact h ▸ List.mem_cons_self ..
      · exact List.mem_cons_of_mem _ (aDel_mem h)
theorem addS_mem {l : List α} {a b : α} : b ∈ addS l a ↔ b ∈ l ∨ b = a := by
  unfold addS
  split
  · rename_i h
    exact ⟨.inl, fun h' => h'.elim id (fun e => e ▸ h)⟩
  · simp
end

/-- an index: entries, gone keys, volumes, the IDs that were, the next ID; each in the order of its map's block -/
structure Ix where
  E : List (ByteArray × EntD)
  G : List ByteArray
  V : List (Int × VolD)
  H : List Int
  N : Int
def Ix.zero : Ix := ⟨[], [], [], [], 0⟩
/-- what is known of the numbers and texts that an index holds -/
structure Fit (x : Ix) : Prop where
  keys : ∀ p ∈ x.E, p.1.size ≤ 32 ∧ p.2.key.size ≤ 32 ∧ p.2.dig.size = 32 ∧ 0 ≤ p.2.off ∧ p.2.off ≤ 384 ∧ 0 ≤ p.2.len ∧ p.2.len ≤ 384 ∧ 0 ≤ p.2.vol ∧ p.2.vol ≤ 1099511627776
  gone : ∀ k ∈ x.G, k.size ≤ 32
  vols : ∀ p ∈ x.V, 0 ≤ p.1 ∧ p.1 ≤ 1099511627776 ∧ volOk p.2 = true
  had : ∀ d ∈ x.H, 0 ≤ d ∧ d ≤ 1099511627776
  next : 0 ≤ x.N ∧ x.N ≤ 1099511627777
theorem fit_zero : Fit Ix.zero := ⟨by simp [Ix.zero], by simp [Ix.zero], by simp [Ix.zero], by simp [Ix.zero], by simp [Ix.zero]⟩

def EntVA (e : EntD) : Array Value := #[.string e.key, .int .i64 e.vol, .int .i64 e.off, .int .i64 e.len, .string e.dig]
def VolVA (v : VolD) (lv : Value) : Array Value := #[.int .i64 v.id, .int .i64 v.gen, .int .i64 v.len, lv]
/-- v is a slice of places, in a block that is none of X -/
def LocsIn (X : List Nat) (w : World) (v : Value) (l : List (Int × Int)) : Prop := ∃ (av : Option Addr) (cap : Nat), v = .slice av l.length cap ∧
  (0 < l.length → ∃ (b o : Nat), av = some ⟨b, o, none⟩ ∧ l.length ≤ cap ∧ b ∉ X ∧ b < w.heap.size ∧ ∀ (j : Nat) (u : Value), (l.flatMap locV)[j]? = some u → w.cell? ⟨b, o + j, none⟩ = some u)
theorem locV_len (l : List (Int × Int)) : (l.flatMap locV).length = l.length * 2 := flat_len locV 2 (fun _ => rfl) l
theorem LocsIn.at {X : List Nat} {w : World} {v : Value} {l : List (Int × Int)} (h : LocsIn X w v l) : LocsAt w.heap.size w v l := by
  obtain ⟨av, cap, rfl, h⟩ := h
  refine ⟨locV_len l, av, cap, rfl, fun hn => ?_⟩
  obtain ⟨b, o, h1, h2, h3, h4, h5⟩ := h hn
  exact ⟨b, o, h1, h2, h4, h4, h5⟩
theorem LocsIn.keep {X Y : List Nat} {w w' : World} {v : Value} {l : List (Int × Int)} (h : LocsIn X w v l) (k : Kp Y w w') (hx : ∀ i ∈ Y, i < w.heap.size → i ∈ X) : LocsIn X w' v l := by
  obtain ⟨av, cap, rfl, h⟩ := h
  refine ⟨av, cap, rfl, fun hn => ?_⟩
  obtain ⟨b, o, h1, h2, h3, h4, h5⟩ := h hn
  exact ⟨b, o, h1, h2, h3, Nat.lt_of_lt_of_le h4 k.size, fun j u hu => (k.cell h4 (fun hm => h3 (hx _ hm h4))).trans (h5 j u hu)⟩
theorem LocsIn.of_at {X : List Nat} {B : Nat} {w : World} {v : Value} {l : List (Int × Int)} (h : LocsAt B w v l) (hx : ∀ i ∈ X, B ≤ i) : LocsIn X w v l := by
  obtain ⟨-, av, cap, rfl, h⟩ := h
  refine ⟨av, cap, rfl, fun hn => ?_⟩
  obtain ⟨b, o, h1, h2, h3, h4, h5⟩ := h hn
  exact ⟨b, o, h1, h2, fun hm => by have := hx b hm; omega, h4, h5⟩
theorem LocsIn.of_owns {X : List Nat} {w : World} {base : Nat} {v : Value} {l : List (Int × Int)} {n : Nat} (hn : l.length = n) (h : w.ownsRow base 88 2 v n (l.flatMap locV)) (hx : ∀ i ∈ X, i < base) : LocsIn X w v l := by
  subst hn
  have hge := own_block_ge h
  have ha := SliceAt.of_owns h
  clear h
  obtain ⟨-, av, cap, rfl, h⟩ := ha
  refine ⟨av, cap, rfl, fun hn => ?_⟩
  obtain ⟨b, o, h1, h2, h3, h4, h5⟩ := h hn
  subst h1
  exact ⟨b, o, rfl, h2, fun hm => by have := hx b hm; have := hge b rfl; omega, h4, h5⟩

/-- the blocks of an index: itself, and its four maps -/
structure Ib where
  b : Nat
  e : Nat
  g : Nat
  v : Nat
  h : Nat
def Ib.X (I : Ib) : List Nat := [I.b, I.e, I.g, I.v, I.h]
abbrev Ib.p (I : Ib) : Value := .pointer (some ⟨I.b, 0, none⟩)
/-- places in a row of places -/
def LocsT (X : List Nat) (w : World) (v : Value) (l : List (Int × Int)) : Prop := LocsIn X w v l ∧ ∀ b, v.ownBlock = some b → 0 < l.length → ∃ cur z, w.heap[b]? = some (.cells cur 88 z)
theorem LocsT.keep {X Y : List Nat} {w w' : World} {v : Value} {l : List (Int × Int)} (h : LocsT X w v l) (k : Kp Y w w') (hx : ∀ i ∈ Y, i < w.heap.size → i ∈ X) : LocsT X w' v l := by
  refine ⟨h.1.keep k hx, fun b hb hn => ?_⟩
  obtain ⟨cur, z, hc⟩ := h.2 b hb hn
  obtain ⟨av, cap, rfl, hi⟩ := h.1
  obtain ⟨b', o, rfl, h2, h3, h4, h5⟩ := hi hn
  obtain rfl : b' = b := by simpa [Value.ownBlock] using hb
  exact ⟨cur, z, (k.block b' h4 (fun hm => h3 (hx _ hm h4))).trans hc⟩
theorem LocsT.of_owns {X : List Nat} {w : World} {base : Nat} {v : Value} {l : List (Int × Int)} {n : Nat} (hn : l.length = n) (h : w.ownsRow base 88 2 v n (l.flatMap locV)) (hx : ∀ i ∈ X, i < base) : LocsT X w v l := by
  refine ⟨LocsIn.of_owns hn h hx, fun b hb _ => ?_⟩
  obtain ⟨-, ⟨hv, -⟩ | ⟨g, cap, cur, hv, hg, hb', -⟩⟩ := h
  · rw [hv] at hb; cases hb
  · rw [hv] at hb
    obtain rfl : g = b := by simpa [Value.ownBlock] using hb
    exact ⟨cur, _, hb'⟩
/-- the volumes' map -/
def VolsIn (X : List Nat) (w : World) (b : Nat) (V : List (Int × VolD)) : Prop :=
  ∃ VS : List (Int × VolD × Value), VS.map (fun p => (p.1, p.2.1)) = V ∧ MapK (Value.int .i64) w b (VS.map fun p => (p.1, .agg (VolVA p.2.1 p.2.2))) ∧ ∀ p ∈ VS, LocsT X w p.2.2 p.2.1.locs
structure IxAt (I : Ib) (w : World) (x : Ix) : Prop where
  top : w.heap[I.b]? = some (.cells #[.map (some I.e), .map (some I.g), .map (some I.v), .map (some I.h), .int .i64 x.N] 70 (0, 0))
  ents : MapK Value.string w I.e (x.E.map fun p => (p.1, .agg (EntVA p.2)))
  gone : MapK Value.string w I.g (x.G.map fun k => (k, .bool true))
  vols : VolsIn I.X w I.v x.V
  had : MapK (Value.int .i64) w I.h (x.H.map fun d => (d, .bool true))
  apart : I.X.Nodup
theorem VolsIn.keep {X Y : List Nat} {w w' : World} {b : Nat} {V : List (Int × VolD)} (h : VolsIn X w b V) (k : Kp Y w w') (hx : ∀ i ∈ Y, i < w.heap.size → i ∈ X) (hb : b ∉ Y) : VolsIn X w' b V := by
  obtain ⟨VS, h1, h2, h3⟩ := h
  exact ⟨VS, h1, h2.keep k hb, fun p hp => (h3 p hp).keep k hx⟩
/-- what changes no old block of an index leaves it -/
theorem IxAt.keep {I : Ib} {w w' : World} {x : Ix} (h : IxAt I w x) {Y : List Nat} (k : Kp Y w w') (hx : ∀ i ∈ Y, w.heap.size ≤ i) : IxAt I w' x := by
  have hm : ∀ i, i < w.heap.size → i ∉ Y := fun i hi hm => by have := hx i hm; omega
  have l0 := lt_of_block h.top
  exact ⟨(k.block _ l0 (hm _ l0)).trans h.top, h.ents.keep k (hm _ h.ents.lt), h.gone.keep k (hm _ h.gone.lt),
    h.vols.keep k (fun i hi hl => absurd hi (hm i hl)) (hm _ (by obtain ⟨VS, -, h2, -⟩ := h.vols; exact h2.lt)), h.had.keep k (hm _ h.had.lt), h.apart⟩
theorem IxAt.keep0 {I : Ib} {w w' : World} {x : Ix} (h : IxAt I w x) (k : Kp [] w w') : IxAt I w' x := h.keep k (fun _ h => by cases h)
theorem under_mEnt : Tryz.prog.underlying 65 = some (.map 9 38) := by kernel_rfl
theorem under_mStrB : Tryz.prog.underlying 66 = some (.map 9 4) := by kernel_rfl
theorem under_mVol : Tryz.prog.underlying 67 = some (.map 3 36) := by kernel_rfl
theorem under_mIntB : Tryz.prog.underlying 68 = some (.map 3 4) := by kernel_rfl
theorem under_str : Tryz.prog.underlying 9 = some .string := by kernel_rfl
/-- what the program knows of a key -/
def Ix.known (x : Ix) (k : ByteArray) : Bool := (aGet k x.E).isSome || has x.G k
def Ix.get (x : Ix) (k : ByteArray) : EntD × Int := match aGet k x.E with
  | some n => (n, 0)
  | none => (zeroEnt, 9)
theorem zero_ent (w : World) : (zeroValue 38).run Tryz.prog w = .ok (.agg (EntVA zeroEnt)) w := by kernel_rfl
theorem zero_vol (w : World) : (zeroValue 36).run Tryz.prog w = .ok (.agg (VolVA zeroVol (.slice none 0 0))) w := by kernel_rfl
theorem zero_bool (w : World) : (zeroValue 4).run Tryz.prog w = .ok (.bool false) w := by kernel_rfl
theorem known_val (x : Ix) (k : ByteArray) : (kGet k (x.G.map fun k => (k, Value.bool true))).getD (.bool false) = .bool (has x.G k) := by
  rw [kGet_set]
  unfold has
  split
  · rename_i h; simp [h]
  · rename_i h; simp [h]
theorem had_val (x : Ix) (d : Int) : (kGet d (x.H.map fun d => (d, Value.bool true))).getD (.bool false) = .bool (has x.H d) := by
  rw [kGet_set]
  unfold has
  split
  · rename_i h; simp [h]
  · rename_i h; simp [h]
theorem ent_val (x : Ix) (k : ByteArray) : kGet k (x.E.map fun p => (p.1, Value.agg (EntVA p.2))) = (aGet k x.E).map (fun n => .agg (EntVA n)) := kGet_map (fun n => Value.agg (EntVA n)) k x.E
theorem max_key {k : ByteArray} (h : k.size ≤ 32) : k.size ≤ maxLen := by unfold maxLen; omega
theorem Fit.kE {x : Ix} (h : Fit x) : ∀ p ∈ x.E.map (fun p => (p.1, Value.agg (EntVA p.2))), p.1.size ≤ maxLen := by
  intro p hp
  obtain ⟨q, hq, rfl⟩ := List.mem_map.1 hp
  exact max_key (h.keys q hq).1
theorem Fit.kG {x : Ix} (h : Fit x) : ∀ p ∈ x.G.map (fun k => (k, Value.bool true)), p.1.size ≤ maxLen := by
  intro p hp
  obtain ⟨q, hq, rfl⟩ := List.mem_map.1 hp
  exact max_key (h.gone q hq)
theorem Fit.kH {x : Ix} (h : Fit x) : ∀ p ∈ x.H.map (fun d => (d, Value.bool true)), (Lit.int .i64 p.1).wf = true := by
  intro p hp
  obtain ⟨q, hq, rfl⟩ := List.mem_map.1 hp
  have := h.had q hq
  exact wf_i64 (by simp only; omega) (by simp only; omega)
theorem Fit.kV {x : Ix} (h : Fit x) {VS : List (Int × VolD × Value)} (hv : VS.map (fun p => (p.1, p.2.1)) = x.V) : ∀ p ∈ VS.map (fun p => (p.1, Value.agg (VolVA p.2.1 p.2.2))), (Lit.int .i64 p.1).wf = true := by
  intro p hp
  obtain ⟨q, hq, rfl⟩ := List.mem_map.1 hp
  have := h.vols (q.1, q.2.1) (hv ▸ List.mem_map.2 ⟨q, hq, rfl⟩)
  exact wf_i64 (by simp only; omega) (by simp only; omega)
/-- x.entries[k] -/
theorem look_ent {I : Ib} {w : World} {x : Ix} (h : IxAt I w x) (hf : Fit x) {k : ByteArray} (hk : k.size ≤ maxLen) :
    (Instr.lookup 65 (.map (some I.e)) (.string k) true).run Tryz.prog w = .ok (.tuple #[.agg (EntVA (x.get k).1), .bool (aGet k x.E).isSome]) w := by
  have := MapK.look (P := Tryz.prog) (encs_str under_str) under_mEnt h.ents hf.kE (k := k) hk _ (zero_ent w) true
  rw [this, ent_val]
  unfold Ix.get
  cases aGet k x.E <;> rfl
theorem look_ent1 {I : Ib} {w : World} {x : Ix} (h : IxAt I w x) (hf : Fit x) {k : ByteArray} (hk : k.size ≤ maxLen) :
    (Instr.lookup 65 (.map (some I.e)) (.string k) false).run Tryz.prog w = .ok (.agg (EntVA (x.get k).1)) w := by
  have := MapK.look (P := Tryz.prog) (encs_str under_str) under_mEnt h.ents hf.kE (k := k) hk _ (zero_ent w) false
  rw [this, ent_val]
  unfold Ix.get
  cases aGet k x.E <;> rfl
theorem look_gone {I : Ib} {w : World} {x : Ix} (h : IxAt I w x) (hf : Fit x) {k : ByteArray} (hk : k.size ≤ maxLen) :
    (Instr.lookup 66 (.map (some I.g)) (.string k) false).run Tryz.prog w = .ok (.bool (has x.G k)) w := by
  have := MapK.look (P := Tryz.prog) (encs_str under_str) under_mStrB h.gone hf.kG (k := k) hk _ (zero_bool w) false
  rw [this]
  simp only [known_val]
  rfl
theorem look_had {I : Ib} {w : World} {x : Ix} (h : IxAt I w x) (hf : Fit x) {d : Int} (hd : (Lit.int .i64 d).wf = true) :
    (Instr.lookup 68 (.map (some I.h)) (.int .i64 d) false).run Tryz.prog w = .ok (.bool (has x.H d)) w := by
  have := MapK.look (P := Tryz.prog) (encs_int under_int) under_mIntB h.had hf.kH (k := d) hd _ (zero_bool w) false
  rw [this]
  simp only [had_val]
  rfl
def Ix.vol (x : Ix) (id : Int) : VolD × Int := match aGet id x.V with
  | some v => (v, 0)
  | none => (zeroVol, 9)
theorem look_vol {I : Ib} {w : World} {x : Ix} (h : IxAt I w x) (hf : Fit x) {d : Int} (hd : (Lit.int .i64 d).wf = true) :
    ∃ lv, LocsIn I.X w lv (x.vol d).1.locs ∧ (Instr.lookup 67 (.map (some I.v)) (.int .i64 d) true).run Tryz.prog w = .ok (.tuple #[.agg (VolVA (x.vol d).1 lv), .bool (aGet d x.V).isSome]) w ∧
      (Instr.lookup 67 (.map (some I.v)) (.int .i64 d) false).run Tryz.prog w = .ok (.agg (VolVA (x.vol d).1 lv)) w := by
  obtain ⟨VS, hv, hm, hl⟩ := h.vols
  have h1 := MapK.look (P := Tryz.prog) (encs_int under_int) under_mVol hm (hf.kV hv) (k := d) hd _ (zero_vol w) true
  have h0 := MapK.look (P := Tryz.prog) (encs_int under_int) under_mVol hm (hf.kV hv) (k := d) hd _ (zero_vol w) false
  have hg : kGet d (VS.map fun p => (p.1, Value.agg (VolVA p.2.1 p.2.2))) = (aGet d VS).map (fun q => .agg (VolVA q.1 q.2)) := kGet_map (fun q : VolD × Value => Value.agg (VolVA q.1 q.2)) d VS
  have hv2 : aGet d x.V = (aGet d VS).map (·.1) := by rw [← hv]; exact aGet_vals (fun q : VolD × Value => q.1) d VS
  rw [h1, h0, hg, hv2]
  unfold Ix.vol
  rw [hv2]
  cases hq : aGet d VS with
  | none => exact ⟨.slice none 0 0, ⟨none, 0, rfl, fun h => absurd h (by decide)⟩, rfl, rfl⟩
  | some q => exact ⟨q.2, (hl _ (aGet_mem hq)).1, rfl, rfl⟩
end Go.Proofs.YtdhhddifmkijhaaGreat
