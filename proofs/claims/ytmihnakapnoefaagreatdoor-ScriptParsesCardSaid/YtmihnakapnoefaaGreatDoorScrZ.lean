/-
  The document's Parse of a command.
-/
import Derived.Test.YtmihnakapnoefaaGreatDoorScrY
import Derived.Test.YtmihnakapnoefaaGreatDoorScrR
import Derived.Test.YtmihnakapnoefaaGreatDoorReqT
import Derived.Test.YtmihnakapnoefaaGreatDoorReqR
namespace Go.Proofs.YtmihnakapnoefaaGreatDoor
open Go.RowKit Go.WideShapes

theorem num_cases (l : List UInt8) : (numR l = none ∧ numV l = -1) ∨ ∃ n : Nat, numR l = some n ∧ numV l = n := by
  unfold numV
  cases h : numR l with
  | none => exact .inl ⟨rfl, rfl⟩
  | some n => exact .inr ⟨n, rfl, rfl⟩
theorem num_pos {l : List UInt8} (h : 0 ≤ numV l) : ∃ n : Nat, numR l = some n ∧ numV l = n := by
  rcases num_cases l with ⟨-, e⟩ | h
  · omega
  · exact h
theorem num_neg {l : List UInt8} (h : ¬ 0 ≤ numV l) : numR l = none := by
  rcases num_cases l with ⟨e, -⟩ | ⟨n, -, e⟩
  · exact e
  · omega
def nv (x : ByteArray) : Int := numV x.data.toList
theorem read_1 (x y z : ByteArray) : readC 1 [x, y, z] = if 0 ≤ nv x ∧ 0 ≤ nv y ∧ 0 ≤ nv z then some ⟨1, 0, E0, E0, nv x, nv y, nv z, E0, [], []⟩ else none := by
  unfold nv
  by_cases h1 : 0 ≤ numV x.data.toList
  · obtain ⟨n, e1, v1⟩ := num_pos h1
    by_cases h2 : 0 ≤ numV y.data.toList
    · obtain ⟨a, e2, v2⟩ := num_pos h2
      by_cases h3 : 0 ≤ numV z.data.toList
      · obtain ⟨b, e3, v3⟩ := num_pos h3
        rw [if_pos ⟨h1, h2, h3⟩, v1, v2, v3]
        simp only [readC, e1, e2, e3]
      · rw [if_neg (fun h => h3 h.2.2)]
        simp only [readC, e1, e2, num_neg h3]
    · rw [if_neg (fun h => h2 h.2.1)]
      simp only [readC, e1, num_neg h2]
  · rw [if_neg (fun h => h1 h.1)]
    simp only [readC, num_neg h1]
theorem read_2 (x : ByteArray) : readC 2 [x] = if 0 ≤ nv x then some ⟨2, 0, E0, E0, nv x, 0, 0, E0, [], []⟩ else none := by
  unfold nv
  by_cases h1 : 0 ≤ numV x.data.toList
  · obtain ⟨n, e1, v1⟩ := num_pos h1
    rw [if_pos h1, v1]; simp only [readC, e1]
  · rw [if_neg h1]; simp only [readC, num_neg h1]
theorem read_3 (x : ByteArray) : readC 3 [x] = if 0 ≤ nv x then some ⟨3, 0, E0, E0, nv x, 0, 0, E0, [], []⟩ else none := by
  unfold nv
  by_cases h1 : 0 ≤ numV x.data.toList
  · obtain ⟨n, e1, v1⟩ := num_pos h1
    rw [if_pos h1, v1]; simp only [readC, e1]
  · rw [if_neg h1]; simp only [readC, num_neg h1]
theorem read_5 (x : ByteArray) : readC 5 [x] = if 0 ≤ nv x then some ⟨5, 0, E0, E0, 0, nv x, 0, E0, [], []⟩ else none := by
  unfold nv
  by_cases h1 : 0 ≤ numV x.data.toList
  · obtain ⟨n, e1, v1⟩ := num_pos h1
    rw [if_pos h1, v1]; simp only [readC, e1]
  · rw [if_neg h1]; simp only [readC, num_neg h1]
theorem read_6 (x : ByteArray) : readC 6 [x] = if 0 ≤ nv x then some ⟨6, 0, E0, E0, 0, nv x, 0, E0, [], []⟩ else none := by
  unfold nv
  by_cases h1 : 0 ≤ numV x.data.toList
  · obtain ⟨n, e1, v1⟩ := num_pos h1
    rw [if_pos h1, v1]; simp only [readC, e1]
  · rw [if_neg h1]; simp only [readC, num_neg h1]
theorem read_4 (x y z : ByteArray) : readC 4 [x, y, z] = if 0 ≤ nv x ∧ 0 ≤ nv y ∧ (undigR z.data.toList).isSome = true then some ⟨4, 0, E0, E0, nv y, nv x, 0, SB ((undigR z.data.toList).getD []), [], []⟩ else none := by
  unfold nv
  by_cases h1 : 0 ≤ numV x.data.toList
  · obtain ⟨n, e1, v1⟩ := num_pos h1
    by_cases h2 : 0 ≤ numV y.data.toList
    · obtain ⟨a, e2, v2⟩ := num_pos h2
      cases e3 : undigR z.data.toList with
      | some t =>
        rw [if_pos ⟨h1, h2, rfl⟩, v1, v2]
        simp only [readC, e1, e2, e3, Option.getD_some]
      | none =>
        rw [if_neg (fun h => by cases h.2.2)]
        simp only [readC, e1, e2, e3]
    · rw [if_neg (fun h => h2 h.2.1)]
      simp only [readC, e1, num_neg h2]
  · rw [if_neg (fun h => h1 h.1)]
    simp only [readC, num_neg h1]
theorem read_7 (x y : ByteArray) : readC 7 [x, y] = if (marksR x.data.toList).isSome = true ∧ (marksR y.data.toList).isSome = true then some ⟨7, 0, E0, E0, 0, 0, 0, E0, (marksR x.data.toList).getD [], (marksR y.data.toList).getD []⟩ else none := by
  cases e1 : marksR x.data.toList with
  | none => simp [readC, e1]
  | some a =>
    cases e2 : marksR y.data.toList with
    | none => simp [readC, e1, e2]
    | some b => simp [readC, e1, e2]
theorem line_size {s : ByteArray} {x : ByteArray} {r : List ByteArray} (h : piecesOf s = x :: r) : x.size + r.length ≤ s.size := by
  have e := of_pieces s _ h
  have h1 : s.size = (Lib.join ((x :: r).map (·.data.toList)) [32]).length := (congrArg ByteArray.size e).trans (SB_size _)
  rw [List.map_cons, Lib.join_length] at h1
  simp only [Lib.lens, List.map_cons, List.sum_cons, List.length_map, len_data, List.length_cons, List.length_nil] at h1
  omega
theorem short_no {s : ByteArray} {x : ByteArray} {r : List ByteArray} {k : Nat} (h : piecesOf s = x :: r) (h1 : 1 ≤ k) (h7 : k ≤ 7) (ha : actOf x = k) (hl : r.length = (partsK (k : Int)).length) : 5 ≤ s.size := by
  have hx := (actOf_eq ha (by omega)).1
  have hs := line_size h
  have hw : x.size = (wordA k).length := by rw [hx, SB_size]
  have hk : k = 1 ∨ k = 2 ∨ k = 3 ∨ k = 4 ∨ k = 5 ∨ k = 6 ∨ k = 7 := by omega
  rcases hk with rfl | rfl | rfl | rfl | rfl | rfl | rfl
  · have a : (wordA 1).length = 4 := rfl
    have b : (partsK ((1 : Nat) : Int)).length = 3 := rfl
    omega
  · have a : (wordA 2).length = 4 := rfl
    have b : (partsK ((2 : Nat) : Int)).length = 1 := rfl
    omega
  · have a : (wordA 3).length = 6 := rfl
    have b : (partsK ((3 : Nat) : Int)).length = 1 := rfl
    omega
  · have a : (wordA 4).length = 5 := rfl
    have b : (partsK ((4 : Nat) : Int)).length = 3 := rfl
    omega
  · have a : (wordA 5).length = 4 := rfl
    have b : (partsK ((5 : Nat) : Int)).length = 1 := rfl
    omega
  · have a : (wordA 6).length = 7 := rfl
    have b : (partsK ((6 : Nat) : Int)).length = 1 := rfl
    omega
  · have a : (wordA 7).length = 5 := rfl
    have b : (partsK ((7 : Nat) : Int)).length = 2 := rfl
    omega
def longK (k : Nat) : Nat := (partsK (k : Int)).length + 1
def doTo (x : ByteArray) (m n : Nat) : Int := if 1 ≤ actOf x ∧ actOf x ≤ n ∧ m = longK (actOf x) then (actOf x : Int) else 0
theorem doTo_zero (x : ByteArray) (m : Nat) : doTo x m 0 = 0 := by unfold doTo; rw [if_neg (by omega)]
theorem doTo_yes {x : ByteArray} {m n : Nat} (hn : n < 7) (h : x = SB (wordA (n + 1))) (hm : m = longK (n + 1)) : doTo x m (n + 1) = (n : Int) + 1 := by
  have e := (actOf_iff x (n + 1) (by omega) (by omega)).1 h
  unfold doTo
  rw [e, if_pos ⟨by omega, by omega, hm⟩]; rfl
theorem doTo_no {x : ByteArray} {m n : Nat} (hn : n < 7) (h : ¬ (x = SB (wordA (n + 1)) ∧ m = longK (n + 1))) : doTo x m (n + 1) = doTo x m n := by
  unfold doTo
  by_cases e : actOf x = n + 1
  · have h2 := (actOf_iff x (n + 1) (by omega) (by omega)).2 e
    have h3 : m ≠ longK (n + 1) := fun hm => h ⟨h2, hm⟩
    rw [e, if_neg (fun h => h3 h.2.2), if_neg (fun h => h3 h.2.2)]
  · by_cases h4 : 1 ≤ actOf x ∧ actOf x ≤ n + 1 ∧ m = longK (actOf x)
    · rw [if_pos h4, if_pos ⟨h4.1, by omega, h4.2.2⟩]
    · rw [if_neg h4, if_neg (fun h => h4 ⟨h.1, by omega, h.2.2⟩)]
theorem doTo_end {x : ByteArray} {r : List ByteArray} : (doTo x (r.length + 1) 7 = 0 ∧ readC (actOf x) r = none) ∨ ∃ k : Nat, 1 ≤ k ∧ k ≤ 7 ∧ doTo x (r.length + 1) 7 = (k : Int) ∧ actOf x = k ∧ r.length = (partsK (k : Int)).length := by
  by_cases h : 1 ≤ actOf x ∧ actOf x ≤ 7 ∧ r.length + 1 = longK (actOf x)
  · refine .inr ⟨actOf x, h.1, h.2.1, by unfold doTo; rw [if_pos h], rfl, ?_⟩
    have := h.2.2
    unfold longK at this
    omega
  · refine .inl ⟨by unfold doTo; rw [if_neg h], ?_⟩
    cases hr : readC (actOf x) r with
    | none => rfl
    | some c =>
      exfalso
      have h1 := (read_some hr).1
      have h0 : actOf x ≠ 0 := fun e => by rw [e, read_zero] at hr; cases hr
      have h8 := (actOf_eq (x := x) rfl h0).2
      exact h ⟨by omega, by omega, by unfold longK; omega⟩
set_option maxRecDepth 20000 in
theorem ret_cmd (t : Array Value) (Z : World) (R : Nat) (e : Int) {v0 v1 v2 v3 v4 v5 v6 v7 v8 v9 : Value} (h2 : t.getD 2 undef = .pointer (some ⟨R, 0, none⟩)) (h3 : t.getD 3 undef = .int .i64 e) (z0 : Z.cell? ⟨R, 0, none⟩ = some v0) (z1 : Z.cell? ⟨R, 1, none⟩ = some v1) (z2 : Z.cell? ⟨R, 2, none⟩ = some v2) (z3 : Z.cell? ⟨R, 3, none⟩ = some v3) (z4 : Z.cell? ⟨R, 4, none⟩ = some v4) (z5 : Z.cell? ⟨R, 5, none⟩ = some v5) (z6 : Z.cell? ⟨R, 6, none⟩ = some v6) (z7 : Z.cell? ⟨R, 7, none⟩ = some v7) (z8 : Z.cell? ⟨R, 8, none⟩ = some v8) (z9 : Z.cell? ⟨R, 9, none⟩ = some v9) :
    (results Tryz.f13 t).run Tryz.prog Z = .ok (.tuple #[.agg #[v0, v1, v2, v3, v4, v5, v6, v7, v8, v9], .int .i64 e]) Z := by
  have h2' : t[2]?.getD undef = .pointer (some ⟨R, 0, none⟩) := by rw [← h2]; simp [Array.getD_eq_getD_getElem?]
  have h3' : t[3]?.getD undef = .int .i64 e := by rw [← h3]; simp [Array.getD_eq_getD_getElem?]
  simp [results, Tryz.results13, go_sem, z0, z1, z2, z3, z4, z5, z6, z7, z8, z9, h2', h3']
  try rfl
set_option maxHeartbeats 16000000 in
set_option maxRecDepth 20000 in
theorem rparse_line (s : ByteArray) (hs : s.size < 16384) (hc : isCall s = false) (w : World) (_hE : Env w) :
    Calls Tryz.prog 13 #[.string s] w fun e w' => ∃ kv tv, e = .returned (.tuple #[.agg (CmdV (parseC s).1 kv tv), .int .i64 (parseC s).2]) ∧ BoolsAt w'.heap.size w' kv (parseC s).1.keep ∧ BoolsAt w'.heap.size w' tv (parseC s).1.torn ∧ Kp [] w w' := by
  obtain ⟨w0, hw0⟩ : ∃ w0, w0 = w.alloc (.cells #[.int .i64 0, .int .i64 0, .string E0, .string E0, .int .i64 0, .int .i64 0, .int .i64 0, .string E0, .slice none 0 0, .slice none 0 0] 26) := ⟨_, rfl⟩
  have kw0 : Kp [] w w0 := hw0 ▸ (Kp.refl _ _).alloc _
  obtain ⟨R, hR⟩ : ∃ R, R = w.heap.size := ⟨_, rfl⟩
  have hbR : w0.heap[R]? = some (.cells #[.int .i64 0, .int .i64 0, .string E0, .string E0, .int .i64 0, .int .i64 0, .int .i64 0, .string E0, .slice none 0 0, .slice none 0 0] 26 (0, 0)) := by rw [hw0, hR]; exact block_new _ _
  have HR := Lib.hid hR
  have Hw0 := Lib.hid hw0
  have HBR := Lib.hid hbR
  obtain ⟨⟨pc, pe⟩, hp⟩ : ∃ p, p = parseC s := ⟨_, rfl⟩
  rw [← hp]
  have HP := Lib.hid hp
  have hcall : (s.data.toList.take 5 == [99, 97, 108, 108, 32]) = false := by
    unfold isCall at hc
    simpa using hc
  have HCL := Lib.hid hc
  clear hw0 hR hp hbR hc
  by_cases h5 : 5 ≤ s.size
  · have h5I : (5 : Int) ≤ s.size := by omega
    have hext : ((s.extract 0 5).toList == [99, 97, 108, 108, 32]) = false := by
      rw [ByteArray.toList_eq, Lib.extract_data, List.drop_zero]; exact hcall
    go_enter Tryz.func13, Tryz.ntmps13
    go_wp2_with fail
    rw [← Hw0.out, ← HR.out]
    refine (rwords s hs _).mono ?_
    rintro e w1 ⟨v, rfl, ⟨ys, hys, hown⟩, k1⟩
    obtain rfl : ys = piecesOf s := by
      have h := hys.trans (pieces_words s).symm
      exact map_data_inj _ _ h
    obtain ⟨xs, hxs⟩ : ∃ xs, xs = piecesOf s := ⟨_, rfl⟩
    rw [← hxs] at hown
    have HXS := Lib.hid hxs
    obtain ⟨x0, rest, rfl⟩ : ∃ x0 rest, xs = x0 :: rest := by
      match xs, HXS.out with
      | [], h => exact absurd (congrArg List.length h) (by rw [pieces_len]; simp)
      | x0 :: rest, _ => exact ⟨x0, rest, rfl⟩
    obtain ⟨B, cp, hv, hBge, hcells⟩ : ∃ B cp, v = .slice (some ⟨B, 0, none⟩) (rest.length + 1) cp ∧ w0.heap.size ≤ B ∧ ∀ (j : Nat) (x : ByteArray), (x0 :: rest)[j]? = some x → w1.cell? ⟨B, j, none⟩ = some (.string x) := by
      obtain ⟨hl1, ⟨hv, hn⟩ | ⟨g, cap, cur, hv, hg, hb', hc, hm, hs, ht⟩⟩ := hown
      · simp at hn
      · refine ⟨g, cap, hv, hg, fun j x hj => cell_of_cells hb' ?_⟩
        rw [← Array.getElem?_toList]
        have h2 : (cur.toList.take ((x0 :: rest).length * 1))[j]? = some (.string x) := by rw [ht, List.getElem?_map, hj]; rfl
        rw [List.getElem?_take] at h2
        split at h2
        · exact h2
        · cases h2
    subst hv
    have hBlt := lt_of_cell (hcells 0 x0 rfl)
    have hpar : (pc, pe) = okOr (readC (actOf x0) rest) := by
      rw [HP.out]; unfold parseC; rw [HCL.out, ← HXS.out]; rfl
    have hpz : ∀ x ∈ x0 :: rest, x.size ≤ s.size := by rw [HXS.out]; exact pieces_le s
    obtain ⟨rl, hrl⟩ : ∃ rl, rl = rest.length := ⟨_, rfl⟩
    rw [← hrl]
    have HPAR := Lib.hid hpar
    have HPZ := Lib.hid hpz
    have HRL := Lib.hid hrl
    have HCS := Lib.hid hcells
    have hkw1 := kw0.trans k1
    have hBR1 := Kp.blockAt (X := []) HBR.out (by simp) _ k1
    have hRlt : R < w1.heap.size := lt_of_block hBR1
    have HBR1 := Lib.hid hBR1
    clear hys hown hxs hpar hpz hrl hcells hBge hBR1 HP HCL hcall
    go_wp2_with fail
    obtain ⟨A, hA⟩ : ∃ A, A = w1.heap.size := ⟨_, rfl⟩
    obtain ⟨wl, hwl⟩ : ∃ wl, wl = ((w1.alloc (.cells #[.string ⟨#[107, 101, 101, 112]⟩, .string ⟨#[115, 116, 101, 112]⟩, .string ⟨#[115, 101, 116, 116, 108, 101]⟩, .string ⟨#[115, 112, 111, 105, 108]⟩, .string ⟨#[108, 111, 115, 101]⟩, .string ⟨#[114, 101, 112, 108, 97, 99, 101]⟩, .string ⟨#[99, 114, 97, 115, 104]⟩] 9)).alloc (.cells #[.int .i64 4, .int .i64 2, .int .i64 2, .int .i64 4, .int .i64 2, .int .i64 2, .int .i64 3] 3)).alloc (.cells #[.int .i64 0, .int .i64 0, .string E0, .string E0, .int .i64 0, .int .i64 0, .int .i64 0, .string E0, .slice none 0 0, .slice none 0 0] 26) := ⟨_, rfl⟩
    have hkl : Kp [] w1 wl := hwl ▸ (((Kp.refl _ _).alloc _).alloc _).alloc _
    have hall0 : wl.heap[A]? = some (.cells #[.string ⟨#[107, 101, 101, 112]⟩, .string ⟨#[115, 116, 101, 112]⟩, .string ⟨#[115, 101, 116, 116, 108, 101]⟩, .string ⟨#[115, 112, 111, 105, 108]⟩, .string ⟨#[108, 111, 115, 101]⟩, .string ⟨#[114, 101, 112, 108, 97, 99, 101]⟩, .string ⟨#[99, 114, 97, 115, 104]⟩] 9 (0, 0)) := by rw [hwl, hA]; exact block_alloc (block_alloc (block_new _ _) _) _
    have hlng0 : wl.heap[A + 1]? = some (.cells #[.int .i64 4, .int .i64 2, .int .i64 2, .int .i64 4, .int .i64 2, .int .i64 2, .int .i64 3] 3 (0, 0)) := by rw [hwl, hA]; exact block_alloc (two_new _ _ _) _
    obtain ⟨C, hC⟩ : ∃ C, C = A + 2 := ⟨_, rfl⟩
    have hcmd0 : wl.heap[C]? = some (.cells (zeroV (doTo x0 (rl + 1) 0)) 26 (0, 0)) := by
      rw [doTo_zero, hwl, hC, hA]
      have := block_new ((w1.alloc (.cells #[.string ⟨#[107, 101, 101, 112]⟩, .string ⟨#[115, 116, 101, 112]⟩, .string ⟨#[115, 101, 116, 116, 108, 101]⟩, .string ⟨#[115, 112, 111, 105, 108]⟩, .string ⟨#[108, 111, 115, 101]⟩, .string ⟨#[114, 101, 112, 108, 97, 99, 101]⟩, .string ⟨#[99, 114, 97, 115, 104]⟩] 9)).alloc (.cells #[.int .i64 4, .int .i64 2, .int .i64 2, .int .i64 4, .int .i64 2, .int .i64 2, .int .i64 3] 3)) (.cells #[.int .i64 0, .int .i64 0, .string E0, .string E0, .int .i64 0, .int .i64 0, .int .i64 0, .string E0, .slice none 0 0, .slice none 0 0] 26)
      simp only [World.size_alloc] at this
      exact this
    have HALL0 := Lib.hid hall0
    have HLNG0 := Lib.hid hlng0
    have HWL := Lib.hid hwl
    have HA := Lib.hid hA
    have HC := Lib.hid hC
    have hACw : w1.heap.size ≤ C := by omega
    have hAB : A ≠ C := by omega
    have hLB : A + 1 ≠ C := by omega
    have hBC : B ≠ C := by omega
    have hRC' : R ≠ C := by omega
    have hwC : w.heap.size ≤ C := by have := hkw1.size; omega
    clear hwl hA hC hall0 hlng0
    simp only [E0] at HWL
    rw [show w1.heap.size + 1 + 1 = C from by rw [HC.out, HA.out], ← HA.out, ← HWL.out]
    have d0 : ∀ W, Kp [C] wl W → W.cell? ⟨B, 0, none⟩ = some (.string x0) := Kp.cellAt ((hkl.cell (lt_of_cell (HCS.out 0 x0 rfl)) (by simp)).trans (HCS.out 0 x0 rfl)) (by simpa using hBC)
    have HHK := Lib.hid hkl
    go_loopg [10] 7 (fun g i wr => ∃ n : Nat, n + g = 7 ∧ i = .int .i64 n ∧ Kp [C] wl wr ∧ wr.heap[C]? = some (.cells (zeroV (doTo x0 (rl + 1) n)) 26 (0, 0)))
    case atStart => exact ⟨0, by omega, rfl, Kp.refl _ _, hcmd0⟩
    case round =>
      clear hcmd0
      obtain ⟨n, hn, rfl, hK, hcmd⟩ := hrel
      have HN := Lib.hid hn
      by_cases hlt : n < 7
      · obtain ⟨g', rfl⟩ : ∃ g', gk = g' + 1 := ⟨gk - 1, by omega⟩
        clear hn
        have hltI : (n : Int) < 7 := by omega
        obtain ⟨nm, hnm⟩ : ∃ nm, nm = SB (wordA (n + 1)) := ⟨_, rfl⟩
        obtain ⟨lg, hlg⟩ : ∃ lg : Int, lg = longK (n + 1) := ⟨_, rfl⟩
        have da : ∀ W, Kp [C] wl W → W.cell? ⟨A, n, none⟩ = some (.string nm) := Kp.cellAt (cell_of_cells HALL0.out (by
          rw [hnm]
          match n, hlt with
          | 0, _ => rfl
          | 1, _ => rfl
          | 2, _ => rfl
          | 3, _ => rfl
          | 4, _ => rfl
          | 5, _ => rfl
          | 6, _ => rfl)) (by simpa using hAB)
        have dl : ∀ W, Kp [C] wl W → W.cell? ⟨A + 1, n, none⟩ = some (.int .i64 lg) := Kp.cellAt (cell_of_cells HLNG0.out (by
          rw [hlg]
          match n, hlt with
          | 0, _ => rfl
          | 1, _ => rfl
          | 2, _ => rfl
          | 3, _ => rfl
          | 4, _ => rfl
          | 5, _ => rfl
          | 6, _ => rfl)) (by simpa using hLB)
        have HNM := Lib.hid hnm
        have HLG := Lib.hid hlg
        have c0 : wr.cell? ⟨C, 0, none⟩ = some (.int .i64 (doTo x0 (rl + 1) n)) := cell_of_cells hcmd rfl
        have f0 : wr.frozen? ⟨C, 0, none⟩ = false := frozen_of_cells hcmd _
        have HCMD := Lib.hid hcmd
        have rpos : (0 : Int) < (rl : Int) + 1 := by omega
        clear hnm hlg hcmd
        by_cases hq : x0 = nm
        · have hqe : (x0.toList == nm.toList) = true := by rw [hq]; simp
          have hx : x0 = SB (wordA (n + 1)) := hq.trans HNM.out
          have HX := Lib.hid hx
          clear hx hq
          go_wp2_with fail
          refine wpB_begin 999 (Kp [C] wl) (by kernel_rfl) (by exact hK.drew) (fun hHeld => ?_)
          refine wpB_take 0 _ ?_ rfl (by kernel_rfl) (fun _ _ _ h => h) rfl hHeld ?_ ?_
          rotate_left
          · (intro W hW; go_simp; try with_reducible rfl)
          try simp only [Act.put, List.setIfInBounds_toArray, List.set_cons_zero, List.set_cons_succ]
          refine wpB_take 1 _ ?_ rfl (by kernel_rfl) (fun _ _ _ h => h) rfl hHeld ?_ ?_
          rotate_left
          · (intro W hW; go_simp; try with_reducible rfl)
          try simp only [Act.put, List.setIfInBounds_toArray, List.set_cons_zero, List.set_cons_succ]
          refine wpB_take 2 _ ?_ rfl (by kernel_rfl) (fun _ _ _ h => h) rfl hHeld ?_ ?_
          rotate_left
          · (intro W hW; go_simp; try with_reducible rfl)
          try simp only [Act.put, List.setIfInBounds_toArray, List.set_cons_zero, List.set_cons_succ]
          refine wpB_take 3 _ ?_ rfl (by kernel_rfl) (fun _ _ _ h => h) rfl hHeld ?_ ?_
          rotate_left
          · (intro W hW; go_simp; try with_reducible rfl)
          try simp only [Act.put, List.setIfInBounds_toArray, List.set_cons_zero, List.set_cons_succ]
          refine wpB_take 4 _ ?_ rfl (by kernel_rfl) (fun _ _ _ h => h) rfl hHeld ?_ ?_
          rotate_left
          · (intro W hW; go_simp; try with_reducible rfl)
          try simp only [Act.put, List.setIfInBounds_toArray, List.set_cons_zero, List.set_cons_succ]
          refine wpB_take 5 _ ?_ rfl (by kernel_rfl) (fun _ _ _ h => h) rfl hHeld ?_ ?_
          rotate_left
          · (intro W hW; go_simp; try with_reducible rfl)
          try simp only [Act.put, List.setIfInBounds_toArray, List.set_cons_zero, List.set_cons_succ]
          refine wpB_take 6 _ ?_ rfl (by kernel_rfl) (fun _ _ _ h => h) rfl hHeld ?_ ?_
          rotate_left
          · (intro W hW; go_simp; try with_reducible rfl)
          try simp only [Act.put, List.setIfInBounds_toArray, List.set_cons_zero, List.set_cons_succ]
          refine wpB_take 7 _ ?_ rfl (by kernel_rfl) (fun _ _ _ h => h) rfl hHeld ?_ ?_
          rotate_left
          · (intro W hW; go_simp; try with_reducible rfl)
          try simp only [Act.put, List.setIfInBounds_toArray, List.set_cons_zero, List.set_cons_succ]
          refine wpB_take 8 _ ?_ rfl (by kernel_rfl) (fun _ _ _ h => h) rfl hHeld ?_ ?_
          rotate_left
          · (intro W hW; go_simp; try with_reducible rfl)
          try simp only [Act.put, List.setIfInBounds_toArray, List.set_cons_zero, List.set_cons_succ]
          refine wpB_take 9 _ ?_ rfl (by kernel_rfl) (fun _ _ _ h => h) rfl hHeld ?_ ?_
          rotate_left
          · (intro W hW; go_simp; try with_reducible rfl)
          try simp only [Act.put, List.setIfInBounds_toArray, List.set_cons_zero, List.set_cons_succ]
          refine wpB_take 10 _ ?_ rfl (by kernel_rfl) (fun _ _ _ h => h) rfl hHeld ?_ ?_
          rotate_left
          · (intro W hW; go_simp; try with_reducible rfl)
          try simp only [Act.put, List.setIfInBounds_toArray, List.set_cons_zero, List.set_cons_succ]
          refine wpB_take 11 _ ?_ rfl (by kernel_rfl) (fun _ _ _ h => h) rfl hHeld ?_ ?_
          rotate_left
          · (intro W hW; go_simp; try with_reducible rfl)
          try simp only [Act.put, List.setIfInBounds_toArray, List.set_cons_zero, List.set_cons_succ]
          refine wpB_take 12 _ ?_ rfl (by kernel_rfl) (fun _ _ _ h => h) rfl hHeld ?_ ?_
          rotate_left
          · (intro W hW; go_simp; try with_reducible rfl)
          try simp only [Act.put, List.setIfInBounds_toArray, List.set_cons_zero, List.set_cons_succ]
          refine wpB_take 13 _ ?_ rfl (by kernel_rfl) (fun _ _ _ h => h) rfl hHeld ?_ ?_
          rotate_left
          · (intro W hW; go_simp; try with_reducible rfl)
          try simp only [Act.put, List.setIfInBounds_toArray, List.set_cons_zero, List.set_cons_succ]
          refine wpB_take 14 _ ?_ rfl (by kernel_rfl) (fun _ _ _ h => h) rfl hHeld ?_ ?_
          rotate_left
          · (intro W hW; go_simp; try with_reducible rfl)
          try simp only [Act.put, List.setIfInBounds_toArray, List.set_cons_zero, List.set_cons_succ]
          refine wpB_take 15 _ ?_ rfl (by kernel_rfl) (fun _ _ _ h => h) rfl hHeld ?_ ?_
          rotate_left
          · (intro W hW; go_simp; try with_reducible rfl)
          try simp only [Act.put, List.setIfInBounds_toArray, List.set_cons_zero, List.set_cons_succ]
          refine wpB_take 16 _ ?_ rfl (by kernel_rfl) (fun _ _ _ h => h) rfl hHeld ?_ ?_
          rotate_left
          · (intro W hW; go_simp; try with_reducible rfl)
          try simp only [Act.put, List.setIfInBounds_toArray, List.set_cons_zero, List.set_cons_succ]
          refine wpB_done (by kernel_rfl) ?_ _
          by_cases hm : (rl : Int) + 1 = lg
          · have hmb : ((rl : Int) + 1 == lg) = true := by simpa using hm
            have hst := doTo_yes (m := rl + 1) hlt HX.out (by have := HLG.out; omega)
            have HST := Lib.hid hst
            clear hst hm
            go_wp2_with fail
            go_roundg g'
            case rel =>
              have hn := HN.out
              refine ⟨n + 1, by omega, by go_num, hHeld.setCell (p := ⟨C, 0, none⟩) (.inl (by simp)) _, ?_⟩
              rw [HST.out]
              exact block_setCell (w := wr.drew) HCMD.out 0 _
            case measure => omega
          · have hmb : ((rl : Int) + 1 == lg) = false := by simpa using hm
            have hst := doTo_no (x := x0) (m := rl + 1) hlt (fun h => hm (by have := HLG.out; omega))
            have HST := Lib.hid hst
            clear hst hm
            go_wp2_with fail
            go_roundg g'
            case rel =>
              have hn := HN.out
              refine ⟨n + 1, by omega, by go_num, hHeld, ?_⟩
              rw [HST.out]
              exact HCMD.out
            case measure => omega
        · have hqe := str_ne hq
          have hst := doTo_no (x := x0) (m := rl + 1) hlt (fun h => hq (h.1.trans HNM.out.symm))
          have HST := Lib.hid hst
          clear hst hq
          go_wp2_with fail
          refine wpB_begin 999 (Kp [C] wl) (by kernel_rfl) (by exact hK.drew) (fun hHeld => ?_)
          refine wpB_take 0 _ ?_ rfl (by kernel_rfl) (fun _ _ _ h => h) rfl hHeld ?_ ?_
          rotate_left
          · (intro W hW; go_simp; try with_reducible rfl)
          try simp only [Act.put, List.setIfInBounds_toArray, List.set_cons_zero, List.set_cons_succ]
          refine wpB_take 1 _ ?_ rfl (by kernel_rfl) (fun _ _ _ h => h) rfl hHeld ?_ ?_
          rotate_left
          · (intro W hW; go_simp; try with_reducible rfl)
          try simp only [Act.put, List.setIfInBounds_toArray, List.set_cons_zero, List.set_cons_succ]
          refine wpB_take 2 _ ?_ rfl (by kernel_rfl) (fun _ _ _ h => h) rfl hHeld ?_ ?_
          rotate_left
          · (intro W hW; go_simp; try with_reducible rfl)
          try simp only [Act.put, List.setIfInBounds_toArray, List.set_cons_zero, List.set_cons_succ]
          refine wpB_take 3 _ ?_ rfl (by kernel_rfl) (fun _ _ _ h => h) rfl hHeld ?_ ?_
          rotate_left
          · (intro W hW; go_simp; try with_reducible rfl)
          try simp only [Act.put, List.setIfInBounds_toArray, List.set_cons_zero, List.set_cons_succ]
          refine wpB_take 4 _ ?_ rfl (by kernel_rfl) (fun _ _ _ h => h) rfl hHeld ?_ ?_
          rotate_left
          · (intro W hW; go_simp; try with_reducible rfl)
          try simp only [Act.put, List.setIfInBounds_toArray, List.set_cons_zero, List.set_cons_succ]
          refine wpB_take 5 _ ?_ rfl (by kernel_rfl) (fun _ _ _ h => h) rfl hHeld ?_ ?_
          rotate_left
          · (intro W hW; go_simp; try with_reducible rfl)
          try simp only [Act.put, List.setIfInBounds_toArray, List.set_cons_zero, List.set_cons_succ]
          refine wpB_take 6 _ ?_ rfl (by kernel_rfl) (fun _ _ _ h => h) rfl hHeld ?_ ?_
          rotate_left
          · (intro W hW; go_simp; try with_reducible rfl)
          try simp only [Act.put, List.setIfInBounds_toArray, List.set_cons_zero, List.set_cons_succ]
          refine wpB_take 7 _ ?_ rfl (by kernel_rfl) (fun _ _ _ h => h) rfl hHeld ?_ ?_
          rotate_left
          · (intro W hW; go_simp; try with_reducible rfl)
          try simp only [Act.put, List.setIfInBounds_toArray, List.set_cons_zero, List.set_cons_succ]
          refine wpB_take 8 _ ?_ rfl (by kernel_rfl) (fun _ _ _ h => h) rfl hHeld ?_ ?_
          rotate_left
          · (intro W hW; go_simp; try with_reducible rfl)
          try simp only [Act.put, List.setIfInBounds_toArray, List.set_cons_zero, List.set_cons_succ]
          refine wpB_skip 9 _ rfl (by kernel_rfl) (fun _ _ _ h => h) rfl hHeld ?_
          try simp only [Act.put, List.setIfInBounds_toArray, List.set_cons_zero, List.set_cons_succ]
          refine wpB_skip 10 _ rfl (by kernel_rfl) (fun _ _ _ h => h) rfl hHeld ?_
          try simp only [Act.put, List.setIfInBounds_toArray, List.set_cons_zero, List.set_cons_succ]
          refine wpB_skip 11 _ rfl (by kernel_rfl) (fun _ _ _ h => h) rfl hHeld ?_
          try simp only [Act.put, List.setIfInBounds_toArray, List.set_cons_zero, List.set_cons_succ]
          refine wpB_skip 12 _ rfl (by kernel_rfl) (fun _ _ _ h => h) rfl hHeld ?_
          try simp only [Act.put, List.setIfInBounds_toArray, List.set_cons_zero, List.set_cons_succ]
          refine wpB_skip 13 _ rfl (by kernel_rfl) (fun _ _ _ h => h) rfl hHeld ?_
          try simp only [Act.put, List.setIfInBounds_toArray, List.set_cons_zero, List.set_cons_succ]
          refine wpB_skip 14 _ rfl (by kernel_rfl) (fun _ _ _ h => h) rfl hHeld ?_
          try simp only [Act.put, List.setIfInBounds_toArray, List.set_cons_zero, List.set_cons_succ]
          refine wpB_skip 15 _ rfl (by kernel_rfl) (fun _ _ _ h => h) rfl hHeld ?_
          try simp only [Act.put, List.setIfInBounds_toArray, List.set_cons_zero, List.set_cons_succ]
          refine wpB_take 16 _ ?_ rfl (by kernel_rfl) (fun _ _ _ h => h) rfl hHeld ?_ ?_
          rotate_left
          · (intro W hW; go_simp; try with_reducible rfl)
          try simp only [Act.put, List.setIfInBounds_toArray, List.set_cons_zero, List.set_cons_succ]
          refine wpB_done (by kernel_rfl) ?_ _
          go_wp2_with fail
          go_roundg g'
          case rel =>
            have hn := HN.out
            refine ⟨n + 1, by omega, by go_num, hHeld, ?_⟩
            rw [HST.out]
            exact HCMD.out
          case measure => omega
      · obtain rfl : n = 7 := by omega
        obtain rfl : gk = 0 := by omega
        clear hn HN
        have hcl : ∀ (j : Nat) (x : ByteArray), (x0 :: rest)[j]? = some x → ∀ W, Kp [C] wl W → W.cell? ⟨B, j, none⟩ = some (.string x) := fun j x hj => Kp.cellAt ((HHK.out.cell (lt_of_cell (HCS.out j x hj)) (by simp)).trans (HCS.out j x hj)) (by simpa using hBC)
        have HCLS := Lib.hid hcl
        have hkwl : Kp [] w wl := hkw1.trans HHK.out
        have hbRl := Kp.blockAt (X := []) HBR1.out (by simp) _ HHK.out
        have HBRL := Lib.hid hbRl
        have hRC : R ∉ [C] := by simpa using hRC'
        clear hcl hbRl d0 HALL0 HLNG0 HWL
        have hend := doTo_end (x := x0) (r := rest)
        rw [← HRL.out] at hend
        rcases hend with ⟨hd, hnone⟩ | ⟨k, hk1, hk7, hd, hact, hlen⟩
        · have hpar : pc = zeroCmd ∧ pe = 14 := by
            have := HPAR.out
            rw [hnone] at this
            simp only [okOr, Prod.mk.injEq] at this
            exact this
          obtain ⟨rfl, rfl⟩ := hpar
          rw [hd] at hcmd
          obtain ⟨⟨c0, c1, c2, c3, c4, c5, c6, c7, c8, c9⟩, cf⟩ := read10 hcmd
          clear hd hnone hcmd
          have hbRb := Kp.blockAt (X := [C]) HBRL.out hRC _ hK
          obtain ⟨⟨r0, r1, r2, r3, r4, r5, r6, r7, r8, r9⟩, rf⟩ := read10 hbRb
          have hKX : Kp [C] wl (wr) := hK
          have hbRx := Kp.blockAt (X := [C]) HBRL.out hRC _ hKX
          have HBRX := Lib.hid hbRx
          have hkx := Kp.over hkwl hKX hwC
          have HKX := Lib.hid hKX
          clear hbRb hbRx hKX
          go_wp2_with fail
          have hz := put10 (HBRX.out) (.int .i64 0) (.int .i64 0) (.string E0) (.string E0) (.int .i64 0) (.int .i64 0) (.int .i64 0) (.string E0) (.slice none 0 0) (.slice none 0 0)
          have hkz := (hkx).put10 (R := R) (.inr (Nat.le_of_eq HR.out.symm)) (.int .i64 0) (.int .i64 0) (.string E0) (.string E0) (.int .i64 0) (.int .i64 0) (.int .i64 0) (.string E0) (.slice none 0 0) (.slice none 0 0)
          obtain ⟨Z, hZ⟩ : ∃ Z, Z = (((((((((((wr).setCell ⟨R, 0, none⟩ (.int .i64 0)).setCell ⟨R, 1, none⟩ (.int .i64 0)).setCell ⟨R, 2, none⟩ (.string E0)).setCell ⟨R, 3, none⟩ (.string E0)).setCell ⟨R, 4, none⟩ (.int .i64 0)).setCell ⟨R, 5, none⟩ (.int .i64 0)).setCell ⟨R, 6, none⟩ (.int .i64 0)).setCell ⟨R, 7, none⟩ (.string E0)).setCell ⟨R, 8, none⟩ (.slice none 0 0)).setCell ⟨R, 9, none⟩ (.slice none 0 0)) := ⟨_, rfl⟩
          rw [← hZ] at hz hkz ⊢
          have HZ := Lib.hid hZ
          clear hZ
          obtain ⟨⟨z0, z1, z2, z3, z4, z5, z6, z7, z8, z9⟩, -⟩ := read10 hz
          refine bodyPost_ret (ret_cmd _ _ R 14 (by kernel_rfl) (by kernel_rfl) z0 z1 z2 z3 z4 z5 z6 z7 z8 z9) rfl ?_
          exact ⟨_, _, rfl, nilBools _, nilBools _, hkz⟩
        · rw [hd] at hcmd
          rw [hact] at HPAR
          replace hlen := HRL.out.symm.trans hlen
          have HLEN := Lib.hid hlen
          have HACT := Lib.hid hact
          have hk : k = 1 ∨ k = 2 ∨ k = 3 ∨ k = 4 ∨ k = 5 ∨ k = 6 ∨ k = 7 := by omega
          clear hd hact hlen hk1 hk7
          rcases hk with rfl | rfl | rfl | rfl | rfl | rfl | rfl
          · obtain ⟨x1, x2, x3, rfl⟩ : ∃ x1 x2 x3, rest = [x1, x2, x3] := by
              match rest, HLEN.out with
              | [x1, x2, x3], _ => exact ⟨x1, x2, x3, rfl⟩
            obtain rfl : rl = 3 := HRL.out
            have g1 := HCLS.out 1 x1 rfl
            have y1 : x1.size < 16384 := by have := HPZ.out x1 (by simp); omega
            have g2 := HCLS.out 2 x2 rfl
            have y2 : x2.size < 16384 := by have := HPZ.out x2 (by simp); omega
            have g3 := HCLS.out 3 x3 rfl
            have y3 : x3.size < 16384 := by have := HPZ.out x3 (by simp); omega
            replace hcmd : wr.heap[C]? = some (.cells #[.int .i64 1, .int .i64 0, .string E0, .string E0, .int .i64 0, .int .i64 0, .int .i64 0, .string E0, .slice none 0 0, .slice none 0 0] 26 (0, 0)) := hcmd
            obtain ⟨⟨c0, c1, c2, c3, c4, c5, c6, c7, c8, c9⟩, cf⟩ := read10 hcmd
            go_wp2_with fail
            refine (rdig x1 _ y1).mono ?_
            rintro e wa1 ⟨rfl, kk⟩
            obtain ⟨v1, hv1⟩ : ∃ v, v = nv x1 := ⟨_, rfl⟩
            rw [show numV x1.data.toList = v1 from hv1.symm]
            have HV1 := Lib.hid hv1
            clear hv1
            replace hK := hK.call kk
            replace hcmd := Kp.blockAt (X := []) hcmd (by simp) _ kk
            clear kk c0 c1 c2 c3 c4 c5 c6 c7 c8 c9 cf
            obtain ⟨⟨c0, c1, c2, c3, c4, c5, c6, c7, c8, c9⟩, cf⟩ := read10 hcmd
            go_wp2_with fail
            obtain ⟨ws1, hws⟩ : ∃ W2, W2 = wa1.setCell ⟨C, 4, none⟩ (.int .i64 v1) := ⟨_, rfl⟩
            rw [← hws]
            replace hK : Kp [C] wl ws1 := hws ▸ hK.setCell (p := ⟨C, 4, none⟩) (.inl (by simp)) _
            replace hcmd : ws1.heap[C]? = some (.cells #[.int .i64 1, .int .i64 0, .string E0, .string E0, .int .i64 v1, .int .i64 0, .int .i64 0, .string E0, .slice none 0 0, .slice none 0 0] 26 (0, 0)) := by rw [hws]; exact block_setCell hcmd 4 _
            clear hws c0 c1 c2 c3 c4 c5 c6 c7 c8 c9 cf
            obtain ⟨⟨c0, c1, c2, c3, c4, c5, c6, c7, c8, c9⟩, cf⟩ := read10 hcmd
            refine (rdig x2 _ y2).mono ?_
            rintro e wa2 ⟨rfl, kk⟩
            obtain ⟨v2, hv2⟩ : ∃ v, v = nv x2 := ⟨_, rfl⟩
            rw [show numV x2.data.toList = v2 from hv2.symm]
            have HV2 := Lib.hid hv2
            clear hv2
            replace hK := hK.call kk
            replace hcmd := Kp.blockAt (X := []) hcmd (by simp) _ kk
            clear kk c0 c1 c2 c3 c4 c5 c6 c7 c8 c9 cf
            obtain ⟨⟨c0, c1, c2, c3, c4, c5, c6, c7, c8, c9⟩, cf⟩ := read10 hcmd
            go_wp2_with fail
            obtain ⟨ws2, hws⟩ : ∃ W2, W2 = wa2.setCell ⟨C, 5, none⟩ (.int .i64 v2) := ⟨_, rfl⟩
            rw [← hws]
            replace hK : Kp [C] wl ws2 := hws ▸ hK.setCell (p := ⟨C, 5, none⟩) (.inl (by simp)) _
            replace hcmd : ws2.heap[C]? = some (.cells #[.int .i64 1, .int .i64 0, .string E0, .string E0, .int .i64 v1, .int .i64 v2, .int .i64 0, .string E0, .slice none 0 0, .slice none 0 0] 26 (0, 0)) := by rw [hws]; exact block_setCell hcmd 5 _
            clear hws c0 c1 c2 c3 c4 c5 c6 c7 c8 c9 cf
            obtain ⟨⟨c0, c1, c2, c3, c4, c5, c6, c7, c8, c9⟩, cf⟩ := read10 hcmd
            refine (rdig x3 _ y3).mono ?_
            rintro e wa3 ⟨rfl, kk⟩
            obtain ⟨v3, hv3⟩ : ∃ v, v = nv x3 := ⟨_, rfl⟩
            rw [show numV x3.data.toList = v3 from hv3.symm]
            have HV3 := Lib.hid hv3
            clear hv3
            replace hK := hK.call kk
            replace hcmd := Kp.blockAt (X := []) hcmd (by simp) _ kk
            clear kk c0 c1 c2 c3 c4 c5 c6 c7 c8 c9 cf
            obtain ⟨⟨c0, c1, c2, c3, c4, c5, c6, c7, c8, c9⟩, cf⟩ := read10 hcmd
            by_cases h1 : 0 ≤ v1
            · by_cases h2 : 0 ≤ v2
              · by_cases h3 : 0 ≤ v3
                · have hpar : pc = ⟨1, 0, E0, E0, v1, v2, v3, E0, [], []⟩ ∧ pe = 0 := by
                    have := HPAR.out
                    rw [read_1, if_pos ⟨by rw [← HV1.out]; exact h1, by rw [← HV2.out]; exact h2, by rw [← HV3.out]; exact h3⟩, ← HV1.out, ← HV2.out, ← HV3.out] at this
                    simp only [okOr, Prod.mk.injEq] at this
                    exact this
                  obtain ⟨rfl, rfl⟩ := hpar
                  have hbRb := Kp.blockAt (X := [C]) HBRL.out hRC _ hK
                  obtain ⟨⟨r0, r1, r2, r3, r4, r5, r6, r7, r8, r9⟩, rf⟩ := read10 hbRb
                  have hKX : Kp [C] wl (wa3.setCell ⟨C, 6, none⟩ (.int .i64 v3)) := hK.setCell (p := ⟨C, 6, none⟩) (.inl (by simp)) _
                  have hbRx := Kp.blockAt (X := [C]) HBRL.out hRC _ hKX
                  have HBRX := Lib.hid hbRx
                  have hkx := Kp.over hkwl hKX hwC
                  have HKX := Lib.hid hKX
                  clear hbRb hbRx hKX
                  go_wp2_with fail
                  have hz := put10 (HBRX.out) (.int .i64 1) (.int .i64 0) (.string E0) (.string E0) (.int .i64 v1) (.int .i64 v2) (.int .i64 v3) (.string E0) (.slice none 0 0) (.slice none 0 0)
                  have hkz := (hkx).put10 (R := R) (.inr (Nat.le_of_eq HR.out.symm)) (.int .i64 1) (.int .i64 0) (.string E0) (.string E0) (.int .i64 v1) (.int .i64 v2) (.int .i64 v3) (.string E0) (.slice none 0 0) (.slice none 0 0)
                  obtain ⟨Z, hZ⟩ : ∃ Z, Z = (((((((((((wa3.setCell ⟨C, 6, none⟩ (.int .i64 v3)).setCell ⟨R, 0, none⟩ (.int .i64 1)).setCell ⟨R, 1, none⟩ (.int .i64 0)).setCell ⟨R, 2, none⟩ (.string E0)).setCell ⟨R, 3, none⟩ (.string E0)).setCell ⟨R, 4, none⟩ (.int .i64 v1)).setCell ⟨R, 5, none⟩ (.int .i64 v2)).setCell ⟨R, 6, none⟩ (.int .i64 v3)).setCell ⟨R, 7, none⟩ (.string E0)).setCell ⟨R, 8, none⟩ (.slice none 0 0)).setCell ⟨R, 9, none⟩ (.slice none 0 0)) := ⟨_, rfl⟩
                  rw [← hZ] at hz hkz ⊢
                  have HZ := Lib.hid hZ
                  clear hZ
                  obtain ⟨⟨z0, z1, z2, z3, z4, z5, z6, z7, z8, z9⟩, -⟩ := read10 hz
                  refine bodyPost_ret (ret_cmd _ _ R 0 (by kernel_rfl) (by kernel_rfl) z0 z1 z2 z3 z4 z5 z6 z7 z8 z9) rfl ?_
                  exact ⟨_, _, rfl, nilBools _, nilBools _, hkz⟩
                · have n3 : v3 < 0 := by omega
                  have hpar : pc = zeroCmd ∧ pe = 14 := by
                    have := HPAR.out
                    rw [read_1, if_neg (fun h => h3 (by rw [HV3.out]; exact h.2.2))] at this
                    simp only [okOr, Prod.mk.injEq] at this
                    exact this
                  obtain ⟨rfl, rfl⟩ := hpar
                  have hbRb := Kp.blockAt (X := [C]) HBRL.out hRC _ hK
                  obtain ⟨⟨r0, r1, r2, r3, r4, r5, r6, r7, r8, r9⟩, rf⟩ := read10 hbRb
                  have hKX : Kp [C] wl (wa3.setCell ⟨C, 6, none⟩ (.int .i64 v3)) := hK.setCell (p := ⟨C, 6, none⟩) (.inl (by simp)) _
                  have hbRx := Kp.blockAt (X := [C]) HBRL.out hRC _ hKX
                  have HBRX := Lib.hid hbRx
                  have hkx := Kp.over hkwl hKX hwC
                  have HKX := Lib.hid hKX
                  clear hbRb hbRx hKX
                  go_wp2_with fail
                  have hz := put10 (HBRX.out) (.int .i64 0) (.int .i64 0) (.string E0) (.string E0) (.int .i64 0) (.int .i64 0) (.int .i64 0) (.string E0) (.slice none 0 0) (.slice none 0 0)
                  have hkz := (hkx).put10 (R := R) (.inr (Nat.le_of_eq HR.out.symm)) (.int .i64 0) (.int .i64 0) (.string E0) (.string E0) (.int .i64 0) (.int .i64 0) (.int .i64 0) (.string E0) (.slice none 0 0) (.slice none 0 0)
                  obtain ⟨Z, hZ⟩ : ∃ Z, Z = (((((((((((wa3.setCell ⟨C, 6, none⟩ (.int .i64 v3)).setCell ⟨R, 0, none⟩ (.int .i64 0)).setCell ⟨R, 1, none⟩ (.int .i64 0)).setCell ⟨R, 2, none⟩ (.string E0)).setCell ⟨R, 3, none⟩ (.string E0)).setCell ⟨R, 4, none⟩ (.int .i64 0)).setCell ⟨R, 5, none⟩ (.int .i64 0)).setCell ⟨R, 6, none⟩ (.int .i64 0)).setCell ⟨R, 7, none⟩ (.string E0)).setCell ⟨R, 8, none⟩ (.slice none 0 0)).setCell ⟨R, 9, none⟩ (.slice none 0 0)) := ⟨_, rfl⟩
                  rw [← hZ] at hz hkz ⊢
                  have HZ := Lib.hid hZ
                  clear hZ
                  obtain ⟨⟨z0, z1, z2, z3, z4, z5, z6, z7, z8, z9⟩, -⟩ := read10 hz
                  refine bodyPost_ret (ret_cmd _ _ R 14 (by kernel_rfl) (by kernel_rfl) z0 z1 z2 z3 z4 z5 z6 z7 z8 z9) rfl ?_
                  exact ⟨_, _, rfl, nilBools _, nilBools _, hkz⟩
              · have n2 : v2 < 0 := by omega
                have hpar : pc = zeroCmd ∧ pe = 14 := by
                  have := HPAR.out
                  rw [read_1, if_neg (fun h => h2 (by rw [HV2.out]; exact h.2.1))] at this
                  simp only [okOr, Prod.mk.injEq] at this
                  exact this
                obtain ⟨rfl, rfl⟩ := hpar
                have hbRb := Kp.blockAt (X := [C]) HBRL.out hRC _ hK
                obtain ⟨⟨r0, r1, r2, r3, r4, r5, r6, r7, r8, r9⟩, rf⟩ := read10 hbRb
                have hKX : Kp [C] wl (wa3.setCell ⟨C, 6, none⟩ (.int .i64 v3)) := hK.setCell (p := ⟨C, 6, none⟩) (.inl (by simp)) _
                have hbRx := Kp.blockAt (X := [C]) HBRL.out hRC _ hKX
                have HBRX := Lib.hid hbRx
                have hkx := Kp.over hkwl hKX hwC
                have HKX := Lib.hid hKX
                clear hbRb hbRx hKX
                go_wp2_with fail
                have hz := put10 (HBRX.out) (.int .i64 0) (.int .i64 0) (.string E0) (.string E0) (.int .i64 0) (.int .i64 0) (.int .i64 0) (.string E0) (.slice none 0 0) (.slice none 0 0)
                have hkz := (hkx).put10 (R := R) (.inr (Nat.le_of_eq HR.out.symm)) (.int .i64 0) (.int .i64 0) (.string E0) (.string E0) (.int .i64 0) (.int .i64 0) (.int .i64 0) (.string E0) (.slice none 0 0) (.slice none 0 0)
                obtain ⟨Z, hZ⟩ : ∃ Z, Z = (((((((((((wa3.setCell ⟨C, 6, none⟩ (.int .i64 v3)).setCell ⟨R, 0, none⟩ (.int .i64 0)).setCell ⟨R, 1, none⟩ (.int .i64 0)).setCell ⟨R, 2, none⟩ (.string E0)).setCell ⟨R, 3, none⟩ (.string E0)).setCell ⟨R, 4, none⟩ (.int .i64 0)).setCell ⟨R, 5, none⟩ (.int .i64 0)).setCell ⟨R, 6, none⟩ (.int .i64 0)).setCell ⟨R, 7, none⟩ (.string E0)).setCell ⟨R, 8, none⟩ (.slice none 0 0)).setCell ⟨R, 9, none⟩ (.slice none 0 0)) := ⟨_, rfl⟩
                rw [← hZ] at hz hkz ⊢
                have HZ := Lib.hid hZ
                clear hZ
                obtain ⟨⟨z0, z1, z2, z3, z4, z5, z6, z7, z8, z9⟩, -⟩ := read10 hz
                refine bodyPost_ret (ret_cmd _ _ R 14 (by kernel_rfl) (by kernel_rfl) z0 z1 z2 z3 z4 z5 z6 z7 z8 z9) rfl ?_
                exact ⟨_, _, rfl, nilBools _, nilBools _, hkz⟩
            · have n1 : v1 < 0 := by omega
              have hpar : pc = zeroCmd ∧ pe = 14 := by
                have := HPAR.out
                rw [read_1, if_neg (fun h => h1 (by rw [HV1.out]; exact h.1))] at this
                simp only [okOr, Prod.mk.injEq] at this
                exact this
              obtain ⟨rfl, rfl⟩ := hpar
              have hbRb := Kp.blockAt (X := [C]) HBRL.out hRC _ hK
              obtain ⟨⟨r0, r1, r2, r3, r4, r5, r6, r7, r8, r9⟩, rf⟩ := read10 hbRb
              have hKX : Kp [C] wl (wa3.setCell ⟨C, 6, none⟩ (.int .i64 v3)) := hK.setCell (p := ⟨C, 6, none⟩) (.inl (by simp)) _
              have hbRx := Kp.blockAt (X := [C]) HBRL.out hRC _ hKX
              have HBRX := Lib.hid hbRx
              have hkx := Kp.over hkwl hKX hwC
              have HKX := Lib.hid hKX
              clear hbRb hbRx hKX
              go_wp2_with fail
              have hz := put10 (HBRX.out) (.int .i64 0) (.int .i64 0) (.string E0) (.string E0) (.int .i64 0) (.int .i64 0) (.int .i64 0) (.string E0) (.slice none 0 0) (.slice none 0 0)
              have hkz := (hkx).put10 (R := R) (.inr (Nat.le_of_eq HR.out.symm)) (.int .i64 0) (.int .i64 0) (.string E0) (.string E0) (.int .i64 0) (.int .i64 0) (.int .i64 0) (.string E0) (.slice none 0 0) (.slice none 0 0)
              obtain ⟨Z, hZ⟩ : ∃ Z, Z = (((((((((((wa3.setCell ⟨C, 6, none⟩ (.int .i64 v3)).setCell ⟨R, 0, none⟩ (.int .i64 0)).setCell ⟨R, 1, none⟩ (.int .i64 0)).setCell ⟨R, 2, none⟩ (.string E0)).setCell ⟨R, 3, none⟩ (.string E0)).setCell ⟨R, 4, none⟩ (.int .i64 0)).setCell ⟨R, 5, none⟩ (.int .i64 0)).setCell ⟨R, 6, none⟩ (.int .i64 0)).setCell ⟨R, 7, none⟩ (.string E0)).setCell ⟨R, 8, none⟩ (.slice none 0 0)).setCell ⟨R, 9, none⟩ (.slice none 0 0)) := ⟨_, rfl⟩
              rw [← hZ] at hz hkz ⊢
              have HZ := Lib.hid hZ
              clear hZ
              obtain ⟨⟨z0, z1, z2, z3, z4, z5, z6, z7, z8, z9⟩, -⟩ := read10 hz
              refine bodyPost_ret (ret_cmd _ _ R 14 (by kernel_rfl) (by kernel_rfl) z0 z1 z2 z3 z4 z5 z6 z7 z8 z9) rfl ?_
              exact ⟨_, _, rfl, nilBools _, nilBools _, hkz⟩
          · obtain ⟨x1, rfl⟩ : ∃ x1, rest = [x1] := by
              match rest, HLEN.out with
              | [x1], _ => exact ⟨x1, rfl⟩
            obtain rfl : rl = 1 := HRL.out
            have g1 := HCLS.out 1 x1 rfl
            have y1 : x1.size < 16384 := by have := HPZ.out x1 (by simp); omega
            replace hcmd : wr.heap[C]? = some (.cells #[.int .i64 2, .int .i64 0, .string E0, .string E0, .int .i64 0, .int .i64 0, .int .i64 0, .string E0, .slice none 0 0, .slice none 0 0] 26 (0, 0)) := hcmd
            obtain ⟨⟨c0, c1, c2, c3, c4, c5, c6, c7, c8, c9⟩, cf⟩ := read10 hcmd
            go_wp2_with fail
            refine (rdig x1 _ y1).mono ?_
            rintro e wa1 ⟨rfl, kk⟩
            obtain ⟨v1, hv1⟩ : ∃ v, v = nv x1 := ⟨_, rfl⟩
            rw [show numV x1.data.toList = v1 from hv1.symm]
            have HV1 := Lib.hid hv1
            clear hv1
            replace hK := hK.call kk
            replace hcmd := Kp.blockAt (X := []) hcmd (by simp) _ kk
            clear kk c0 c1 c2 c3 c4 c5 c6 c7 c8 c9 cf
            obtain ⟨⟨c0, c1, c2, c3, c4, c5, c6, c7, c8, c9⟩, cf⟩ := read10 hcmd
            by_cases h1 : 0 ≤ v1
            · have hpar : pc = ⟨2, 0, E0, E0, v1, 0, 0, E0, [], []⟩ ∧ pe = 0 := by
                have := HPAR.out
                rw [read_2, if_pos (by rw [← HV1.out]; exact h1), ← HV1.out] at this
                simp only [okOr, Prod.mk.injEq] at this
                exact this
              obtain ⟨rfl, rfl⟩ := hpar
              have hbRb := Kp.blockAt (X := [C]) HBRL.out hRC _ hK
              obtain ⟨⟨r0, r1, r2, r3, r4, r5, r6, r7, r8, r9⟩, rf⟩ := read10 hbRb
              have hKX : Kp [C] wl (wa1.setCell ⟨C, 4, none⟩ (.int .i64 v1)) := hK.setCell (p := ⟨C, 4, none⟩) (.inl (by simp)) _
              have hbRx := Kp.blockAt (X := [C]) HBRL.out hRC _ hKX
              have HBRX := Lib.hid hbRx
              have hkx := Kp.over hkwl hKX hwC
              have HKX := Lib.hid hKX
              clear hbRb hbRx hKX
              go_wp2_with fail
              have hz := put10 (HBRX.out) (.int .i64 2) (.int .i64 0) (.string E0) (.string E0) (.int .i64 v1) (.int .i64 0) (.int .i64 0) (.string E0) (.slice none 0 0) (.slice none 0 0)
              have hkz := (hkx).put10 (R := R) (.inr (Nat.le_of_eq HR.out.symm)) (.int .i64 2) (.int .i64 0) (.string E0) (.string E0) (.int .i64 v1) (.int .i64 0) (.int .i64 0) (.string E0) (.slice none 0 0) (.slice none 0 0)
              obtain ⟨Z, hZ⟩ : ∃ Z, Z = (((((((((((wa1.setCell ⟨C, 4, none⟩ (.int .i64 v1)).setCell ⟨R, 0, none⟩ (.int .i64 2)).setCell ⟨R, 1, none⟩ (.int .i64 0)).setCell ⟨R, 2, none⟩ (.string E0)).setCell ⟨R, 3, none⟩ (.string E0)).setCell ⟨R, 4, none⟩ (.int .i64 v1)).setCell ⟨R, 5, none⟩ (.int .i64 0)).setCell ⟨R, 6, none⟩ (.int .i64 0)).setCell ⟨R, 7, none⟩ (.string E0)).setCell ⟨R, 8, none⟩ (.slice none 0 0)).setCell ⟨R, 9, none⟩ (.slice none 0 0)) := ⟨_, rfl⟩
              rw [← hZ] at hz hkz ⊢
              have HZ := Lib.hid hZ
              clear hZ
              obtain ⟨⟨z0, z1, z2, z3, z4, z5, z6, z7, z8, z9⟩, -⟩ := read10 hz
              refine bodyPost_ret (ret_cmd _ _ R 0 (by kernel_rfl) (by kernel_rfl) z0 z1 z2 z3 z4 z5 z6 z7 z8 z9) rfl ?_
              exact ⟨_, _, rfl, nilBools _, nilBools _, hkz⟩
            · have n1 : v1 < 0 := by omega
              have hpar : pc = zeroCmd ∧ pe = 14 := by
                have := HPAR.out
                rw [read_2, if_neg (fun h => h1 (by rw [HV1.out]; exact h))] at this
                simp only [okOr, Prod.mk.injEq] at this
                exact this
              obtain ⟨rfl, rfl⟩ := hpar
              have hbRb := Kp.blockAt (X := [C]) HBRL.out hRC _ hK
              obtain ⟨⟨r0, r1, r2, r3, r4, r5, r6, r7, r8, r9⟩, rf⟩ := read10 hbRb
              have hKX : Kp [C] wl (wa1.setCell ⟨C, 4, none⟩ (.int .i64 v1)) := hK.setCell (p := ⟨C, 4, none⟩) (.inl (by simp)) _
              have hbRx := Kp.blockAt (X := [C]) HBRL.out hRC _ hKX
              have HBRX := Lib.hid hbRx
              have hkx := Kp.over hkwl hKX hwC
              have HKX := Lib.hid hKX
              clear hbRb hbRx hKX
              go_wp2_with fail
              have hz := put10 (HBRX.out) (.int .i64 0) (.int .i64 0) (.string E0) (.string E0) (.int .i64 0) (.int .i64 0) (.int .i64 0) (.string E0) (.slice none 0 0) (.slice none 0 0)
              have hkz := (hkx).put10 (R := R) (.inr (Nat.le_of_eq HR.out.symm)) (.int .i64 0) (.int .i64 0) (.string E0) (.string E0) (.int .i64 0) (.int .i64 0) (.int .i64 0) (.string E0) (.slice none 0 0) (.slice none 0 0)
              obtain ⟨Z, hZ⟩ : ∃ Z, Z = (((((((((((wa1.setCell ⟨C, 4, none⟩ (.int .i64 v1)).setCell ⟨R, 0, none⟩ (.int .i64 0)).setCell ⟨R, 1, none⟩ (.int .i64 0)).setCell ⟨R, 2, none⟩ (.string E0)).setCell ⟨R, 3, none⟩ (.string E0)).setCell ⟨R, 4, none⟩ (.int .i64 0)).setCell ⟨R, 5, none⟩ (.int .i64 0)).setCell ⟨R, 6, none⟩ (.int .i64 0)).setCell ⟨R, 7, none⟩ (.string E0)).setCell ⟨R, 8, none⟩ (.slice none 0 0)).setCell ⟨R, 9, none⟩ (.slice none 0 0)) := ⟨_, rfl⟩
              rw [← hZ] at hz hkz ⊢
              have HZ := Lib.hid hZ
              clear hZ
              obtain ⟨⟨z0, z1, z2, z3, z4, z5, z6, z7, z8, z9⟩, -⟩ := read10 hz
              refine bodyPost_ret (ret_cmd _ _ R 14 (by kernel_rfl) (by kernel_rfl) z0 z1 z2 z3 z4 z5 z6 z7 z8 z9) rfl ?_
              exact ⟨_, _, rfl, nilBools _, nilBools _, hkz⟩
          · obtain ⟨x1, rfl⟩ : ∃ x1, rest = [x1] := by
              match rest, HLEN.out with
              | [x1], _ => exact ⟨x1, rfl⟩
            obtain rfl : rl = 1 := HRL.out
            have g1 := HCLS.out 1 x1 rfl
            have y1 : x1.size < 16384 := by have := HPZ.out x1 (by simp); omega
            replace hcmd : wr.heap[C]? = some (.cells #[.int .i64 3, .int .i64 0, .string E0, .string E0, .int .i64 0, .int .i64 0, .int .i64 0, .string E0, .slice none 0 0, .slice none 0 0] 26 (0, 0)) := hcmd
            obtain ⟨⟨c0, c1, c2, c3, c4, c5, c6, c7, c8, c9⟩, cf⟩ := read10 hcmd
            go_wp2_with fail
            refine (rdig x1 _ y1).mono ?_
            rintro e wa1 ⟨rfl, kk⟩
            obtain ⟨v1, hv1⟩ : ∃ v, v = nv x1 := ⟨_, rfl⟩
            rw [show numV x1.data.toList = v1 from hv1.symm]
            have HV1 := Lib.hid hv1
            clear hv1
            replace hK := hK.call kk
            replace hcmd := Kp.blockAt (X := []) hcmd (by simp) _ kk
            clear kk c0 c1 c2 c3 c4 c5 c6 c7 c8 c9 cf
            obtain ⟨⟨c0, c1, c2, c3, c4, c5, c6, c7, c8, c9⟩, cf⟩ := read10 hcmd
            by_cases h1 : 0 ≤ v1
            · have hpar : pc = ⟨3, 0, E0, E0, v1, 0, 0, E0, [], []⟩ ∧ pe = 0 := by
                have := HPAR.out
                rw [read_3, if_pos (by rw [← HV1.out]; exact h1), ← HV1.out] at this
                simp only [okOr, Prod.mk.injEq] at this
                exact this
              obtain ⟨rfl, rfl⟩ := hpar
              have hbRb := Kp.blockAt (X := [C]) HBRL.out hRC _ hK
              obtain ⟨⟨r0, r1, r2, r3, r4, r5, r6, r7, r8, r9⟩, rf⟩ := read10 hbRb
              have hKX : Kp [C] wl (wa1.setCell ⟨C, 4, none⟩ (.int .i64 v1)) := hK.setCell (p := ⟨C, 4, none⟩) (.inl (by simp)) _
              have hbRx := Kp.blockAt (X := [C]) HBRL.out hRC _ hKX
              have HBRX := Lib.hid hbRx
              have hkx := Kp.over hkwl hKX hwC
              have HKX := Lib.hid hKX
              clear hbRb hbRx hKX
              go_wp2_with fail
              have hz := put10 (HBRX.out) (.int .i64 3) (.int .i64 0) (.string E0) (.string E0) (.int .i64 v1) (.int .i64 0) (.int .i64 0) (.string E0) (.slice none 0 0) (.slice none 0 0)
              have hkz := (hkx).put10 (R := R) (.inr (Nat.le_of_eq HR.out.symm)) (.int .i64 3) (.int .i64 0) (.string E0) (.string E0) (.int .i64 v1) (.int .i64 0) (.int .i64 0) (.string E0) (.slice none 0 0) (.slice none 0 0)
              obtain ⟨Z, hZ⟩ : ∃ Z, Z = (((((((((((wa1.setCell ⟨C, 4, none⟩ (.int .i64 v1)).setCell ⟨R, 0, none⟩ (.int .i64 3)).setCell ⟨R, 1, none⟩ (.int .i64 0)).setCell ⟨R, 2, none⟩ (.string E0)).setCell ⟨R, 3, none⟩ (.string E0)).setCell ⟨R, 4, none⟩ (.int .i64 v1)).setCell ⟨R, 5, none⟩ (.int .i64 0)).setCell ⟨R, 6, none⟩ (.int .i64 0)).setCell ⟨R, 7, none⟩ (.string E0)).setCell ⟨R, 8, none⟩ (.slice none 0 0)).setCell ⟨R, 9, none⟩ (.slice none 0 0)) := ⟨_, rfl⟩
              rw [← hZ] at hz hkz ⊢
              have HZ := Lib.hid hZ
              clear hZ
              obtain ⟨⟨z0, z1, z2, z3, z4, z5, z6, z7, z8, z9⟩, -⟩ := read10 hz
              refine bodyPost_ret (ret_cmd _ _ R 0 (by kernel_rfl) (by kernel_rfl) z0 z1 z2 z3 z4 z5 z6 z7 z8 z9) rfl ?_
              exact ⟨_, _, rfl, nilBools _, nilBools _, hkz⟩
            · have n1 : v1 < 0 := by omega
              have hpar : pc = zeroCmd ∧ pe = 14 := by
                have := HPAR.out
                rw [read_3, if_neg (fun h => h1 (by rw [HV1.out]; exact h))] at this
                simp only [okOr, Prod.mk.injEq] at this
                exact this
              obtain ⟨rfl, rfl⟩ := hpar
              have hbRb := Kp.blockAt (X := [C]) HBRL.out hRC _ hK
              obtain ⟨⟨r0, r1, r2, r3, r4, r5, r6, r7, r8, r9⟩, rf⟩ := read10 hbRb
              have hKX : Kp [C] wl (wa1.setCell ⟨C, 4, none⟩ (.int .i64 v1)) := hK.setCell (p := ⟨C, 4, none⟩) (.inl (by simp)) _
              have hbRx := Kp.blockAt (X := [C]) HBRL.out hRC _ hKX
              have HBRX := Lib.hid hbRx
              have hkx := Kp.over hkwl hKX hwC
              have HKX := Lib.hid hKX
              clear hbRb hbRx hKX
              go_wp2_with fail
              have hz := put10 (HBRX.out) (.int .i64 0) (.int .i64 0) (.string E0) (.string E0) (.int .i64 0) (.int .i64 0) (.int .i64 0) (.string E0) (.slice none 0 0) (.slice none 0 0)
              have hkz := (hkx).put10 (R := R) (.inr (Nat.le_of_eq HR.out.symm)) (.int .i64 0) (.int .i64 0) (.string E0) (.string E0) (.int .i64 0) (.int .i64 0) (.int .i64 0) (.string E0) (.slice none 0 0) (.slice none 0 0)
              obtain ⟨Z, hZ⟩ : ∃ Z, Z = (((((((((((wa1.setCell ⟨C, 4, none⟩ (.int .i64 v1)).setCell ⟨R, 0, none⟩ (.int .i64 0)).setCell ⟨R, 1, none⟩ (.int .i64 0)).setCell ⟨R, 2, none⟩ (.string E0)).setCell ⟨R, 3, none⟩ (.string E0)).setCell ⟨R, 4, none⟩ (.int .i64 0)).setCell ⟨R, 5, none⟩ (.int .i64 0)).setCell ⟨R, 6, none⟩ (.int .i64 0)).setCell ⟨R, 7, none⟩ (.string E0)).setCell ⟨R, 8, none⟩ (.slice none 0 0)).setCell ⟨R, 9, none⟩ (.slice none 0 0)) := ⟨_, rfl⟩
              rw [← hZ] at hz hkz ⊢
              have HZ := Lib.hid hZ
              clear hZ
              obtain ⟨⟨z0, z1, z2, z3, z4, z5, z6, z7, z8, z9⟩, -⟩ := read10 hz
              refine bodyPost_ret (ret_cmd _ _ R 14 (by kernel_rfl) (by kernel_rfl) z0 z1 z2 z3 z4 z5 z6 z7 z8 z9) rfl ?_
              exact ⟨_, _, rfl, nilBools _, nilBools _, hkz⟩
          · obtain ⟨x1, x2, x3, rfl⟩ : ∃ x1 x2 x3, rest = [x1, x2, x3] := by
              match rest, HLEN.out with
              | [x1, x2, x3], _ => exact ⟨x1, x2, x3, rfl⟩
            obtain rfl : rl = 3 := HRL.out
            have g1 := HCLS.out 1 x1 rfl
            have y1 : x1.size < 16384 := by have := HPZ.out x1 (by simp); omega
            have g2 := HCLS.out 2 x2 rfl
            have y2 : x2.size < 16384 := by have := HPZ.out x2 (by simp); omega
            have g3 := HCLS.out 3 x3 rfl
            have y3 : x3.size < 16384 := by have := HPZ.out x3 (by simp); omega
            replace hcmd : wr.heap[C]? = some (.cells #[.int .i64 4, .int .i64 0, .string E0, .string E0, .int .i64 0, .int .i64 0, .int .i64 0, .string E0, .slice none 0 0, .slice none 0 0] 26 (0, 0)) := hcmd
            obtain ⟨⟨c0, c1, c2, c3, c4, c5, c6, c7, c8, c9⟩, cf⟩ := read10 hcmd
            go_wp2_with fail
            refine (rdig x1 _ y1).mono ?_
            rintro e wa1 ⟨rfl, kk⟩
            obtain ⟨v1, hv1⟩ : ∃ v, v = nv x1 := ⟨_, rfl⟩
            rw [show numV x1.data.toList = v1 from hv1.symm]
            have HV1 := Lib.hid hv1
            clear hv1
            replace hK := hK.call kk
            replace hcmd := Kp.blockAt (X := []) hcmd (by simp) _ kk
            clear kk c0 c1 c2 c3 c4 c5 c6 c7 c8 c9 cf
            obtain ⟨⟨c0, c1, c2, c3, c4, c5, c6, c7, c8, c9⟩, cf⟩ := read10 hcmd
            go_wp2_with fail
            obtain ⟨ws1, hws⟩ : ∃ W2, W2 = wa1.setCell ⟨C, 5, none⟩ (.int .i64 v1) := ⟨_, rfl⟩
            rw [← hws]
            replace hK : Kp [C] wl ws1 := hws ▸ hK.setCell (p := ⟨C, 5, none⟩) (.inl (by simp)) _
            replace hcmd : ws1.heap[C]? = some (.cells #[.int .i64 4, .int .i64 0, .string E0, .string E0, .int .i64 0, .int .i64 v1, .int .i64 0, .string E0, .slice none 0 0, .slice none 0 0] 26 (0, 0)) := by rw [hws]; exact block_setCell hcmd 5 _
            clear hws c0 c1 c2 c3 c4 c5 c6 c7 c8 c9 cf
            obtain ⟨⟨c0, c1, c2, c3, c4, c5, c6, c7, c8, c9⟩, cf⟩ := read10 hcmd
            refine (rdig x2 _ y2).mono ?_
            rintro e wa2 ⟨rfl, kk⟩
            obtain ⟨v2, hv2⟩ : ∃ v, v = nv x2 := ⟨_, rfl⟩
            rw [show numV x2.data.toList = v2 from hv2.symm]
            have HV2 := Lib.hid hv2
            clear hv2
            replace hK := hK.call kk
            replace hcmd := Kp.blockAt (X := []) hcmd (by simp) _ kk
            clear kk c0 c1 c2 c3 c4 c5 c6 c7 c8 c9 cf
            obtain ⟨⟨c0, c1, c2, c3, c4, c5, c6, c7, c8, c9⟩, cf⟩ := read10 hcmd
            go_wp2_with fail
            obtain ⟨ws2, hws⟩ : ∃ W2, W2 = wa2.setCell ⟨C, 4, none⟩ (.int .i64 v2) := ⟨_, rfl⟩
            rw [← hws]
            replace hK : Kp [C] wl ws2 := hws ▸ hK.setCell (p := ⟨C, 4, none⟩) (.inl (by simp)) _
            replace hcmd : ws2.heap[C]? = some (.cells #[.int .i64 4, .int .i64 0, .string E0, .string E0, .int .i64 v2, .int .i64 v1, .int .i64 0, .string E0, .slice none 0 0, .slice none 0 0] 26 (0, 0)) := by rw [hws]; exact block_setCell hcmd 4 _
            clear hws c0 c1 c2 c3 c4 c5 c6 c7 c8 c9 cf
            obtain ⟨⟨c0, c1, c2, c3, c4, c5, c6, c7, c8, c9⟩, cf⟩ := read10 hcmd
            refine (rundigits x3 y3 _).mono ?_
            rintro e wa3 ⟨rfl, kk⟩
            obtain ⟨us, hus⟩ : ∃ u, u = (undigR x3.data.toList).isSome := ⟨_, rfl⟩
            obtain ⟨ut, hut⟩ : ∃ u, u = SB ((undigR x3.data.toList).getD []) := ⟨_, rfl⟩
            rw [← hus, ← hut]
            have HUS := Lib.hid hus
            have HUT := Lib.hid hut
            clear hus hut
            replace hK := hK.call kk
            replace hcmd := Kp.blockAt (X := []) hcmd (by simp) _ kk
            clear kk c0 c1 c2 c3 c4 c5 c6 c7 c8 c9 cf
            obtain ⟨⟨c0, c1, c2, c3, c4, c5, c6, c7, c8, c9⟩, cf⟩ := read10 hcmd
            cases us with
            | false =>
              have hpar : pc = zeroCmd ∧ pe = 14 := by
                have := HPAR.out
                rw [read_4, if_neg (fun h => by have h3 := h.2.2; rw [← HUS.out] at h3; cases h3)] at this
                simp only [okOr, Prod.mk.injEq] at this
                exact this
              obtain ⟨rfl, rfl⟩ := hpar
              have hbRb := Kp.blockAt (X := [C]) HBRL.out hRC _ hK
              obtain ⟨⟨r0, r1, r2, r3, r4, r5, r6, r7, r8, r9⟩, rf⟩ := read10 hbRb
              have hKX : Kp [C] wl (wa3.setCell ⟨C, 7, none⟩ (.string ut)) := hK.setCell (p := ⟨C, 7, none⟩) (.inl (by simp)) _
              have hbRx := Kp.blockAt (X := [C]) HBRL.out hRC _ hKX
              have HBRX := Lib.hid hbRx
              have hkx := Kp.over hkwl hKX hwC
              have HKX := Lib.hid hKX
              clear hbRb hbRx hKX
              go_wp2_with fail
              have hz := put10 (HBRX.out) (.int .i64 0) (.int .i64 0) (.string E0) (.string E0) (.int .i64 0) (.int .i64 0) (.int .i64 0) (.string E0) (.slice none 0 0) (.slice none 0 0)
              have hkz := (hkx).put10 (R := R) (.inr (Nat.le_of_eq HR.out.symm)) (.int .i64 0) (.int .i64 0) (.string E0) (.string E0) (.int .i64 0) (.int .i64 0) (.int .i64 0) (.string E0) (.slice none 0 0) (.slice none 0 0)
              obtain ⟨Z, hZ⟩ : ∃ Z, Z = (((((((((((wa3.setCell ⟨C, 7, none⟩ (.string ut)).setCell ⟨R, 0, none⟩ (.int .i64 0)).setCell ⟨R, 1, none⟩ (.int .i64 0)).setCell ⟨R, 2, none⟩ (.string E0)).setCell ⟨R, 3, none⟩ (.string E0)).setCell ⟨R, 4, none⟩ (.int .i64 0)).setCell ⟨R, 5, none⟩ (.int .i64 0)).setCell ⟨R, 6, none⟩ (.int .i64 0)).setCell ⟨R, 7, none⟩ (.string E0)).setCell ⟨R, 8, none⟩ (.slice none 0 0)).setCell ⟨R, 9, none⟩ (.slice none 0 0)) := ⟨_, rfl⟩
              rw [← hZ] at hz hkz ⊢
              have HZ := Lib.hid hZ
              clear hZ
              obtain ⟨⟨z0, z1, z2, z3, z4, z5, z6, z7, z8, z9⟩, -⟩ := read10 hz
              refine bodyPost_ret (ret_cmd _ _ R 14 (by kernel_rfl) (by kernel_rfl) z0 z1 z2 z3 z4 z5 z6 z7 z8 z9) rfl ?_
              exact ⟨_, _, rfl, nilBools _, nilBools _, hkz⟩
            | true =>
              by_cases h2 : 0 ≤ v2
              · by_cases h1 : 0 ≤ v1
                · have hpar : pc = ⟨4, 0, E0, E0, v2, v1, 0, ut, [], []⟩ ∧ pe = 0 := by
                    have := HPAR.out
                    rw [read_4, if_pos ⟨by rw [← HV1.out]; exact h1, by rw [← HV2.out]; exact h2, HUS.out.symm⟩, ← HV1.out, ← HV2.out, ← HUT.out] at this
                    simp only [okOr, Prod.mk.injEq] at this
                    exact this
                  obtain ⟨rfl, rfl⟩ := hpar
                  have hbRb := Kp.blockAt (X := [C]) HBRL.out hRC _ hK
                  obtain ⟨⟨r0, r1, r2, r3, r4, r5, r6, r7, r8, r9⟩, rf⟩ := read10 hbRb
                  have hKX : Kp [C] wl (wa3.setCell ⟨C, 7, none⟩ (.string ut)) := hK.setCell (p := ⟨C, 7, none⟩) (.inl (by simp)) _
                  have hbRx := Kp.blockAt (X := [C]) HBRL.out hRC _ hKX
                  have HBRX := Lib.hid hbRx
                  have hkx := Kp.over hkwl hKX hwC
                  have HKX := Lib.hid hKX
                  clear hbRb hbRx hKX
                  go_wp2_with fail
                  have hz := put10 (HBRX.out) (.int .i64 4) (.int .i64 0) (.string E0) (.string E0) (.int .i64 v2) (.int .i64 v1) (.int .i64 0) (.string ut) (.slice none 0 0) (.slice none 0 0)
                  have hkz := (hkx).put10 (R := R) (.inr (Nat.le_of_eq HR.out.symm)) (.int .i64 4) (.int .i64 0) (.string E0) (.string E0) (.int .i64 v2) (.int .i64 v1) (.int .i64 0) (.string ut) (.slice none 0 0) (.slice none 0 0)
                  obtain ⟨Z, hZ⟩ : ∃ Z, Z = (((((((((((wa3.setCell ⟨C, 7, none⟩ (.string ut)).setCell ⟨R, 0, none⟩ (.int .i64 4)).setCell ⟨R, 1, none⟩ (.int .i64 0)).setCell ⟨R, 2, none⟩ (.string E0)).setCell ⟨R, 3, none⟩ (.string E0)).setCell ⟨R, 4, none⟩ (.int .i64 v2)).setCell ⟨R, 5, none⟩ (.int .i64 v1)).setCell ⟨R, 6, none⟩ (.int .i64 0)).setCell ⟨R, 7, none⟩ (.string ut)).setCell ⟨R, 8, none⟩ (.slice none 0 0)).setCell ⟨R, 9, none⟩ (.slice none 0 0)) := ⟨_, rfl⟩
                  rw [← hZ] at hz hkz ⊢
                  have HZ := Lib.hid hZ
                  clear hZ
                  obtain ⟨⟨z0, z1, z2, z3, z4, z5, z6, z7, z8, z9⟩, -⟩ := read10 hz
                  refine bodyPost_ret (ret_cmd _ _ R 0 (by kernel_rfl) (by kernel_rfl) z0 z1 z2 z3 z4 z5 z6 z7 z8 z9) rfl ?_
                  exact ⟨_, _, rfl, nilBools _, nilBools _, hkz⟩
                · have n1 : v1 < 0 := by omega
                  have hpar : pc = zeroCmd ∧ pe = 14 := by
                    have := HPAR.out
                    rw [read_4, if_neg (fun h => h1 (by rw [HV1.out]; exact h.1))] at this
                    simp only [okOr, Prod.mk.injEq] at this
                    exact this
                  obtain ⟨rfl, rfl⟩ := hpar
                  have hbRb := Kp.blockAt (X := [C]) HBRL.out hRC _ hK
                  obtain ⟨⟨r0, r1, r2, r3, r4, r5, r6, r7, r8, r9⟩, rf⟩ := read10 hbRb
                  have hKX : Kp [C] wl (wa3.setCell ⟨C, 7, none⟩ (.string ut)) := hK.setCell (p := ⟨C, 7, none⟩) (.inl (by simp)) _
                  have hbRx := Kp.blockAt (X := [C]) HBRL.out hRC _ hKX
                  have HBRX := Lib.hid hbRx
                  have hkx := Kp.over hkwl hKX hwC
                  have HKX := Lib.hid hKX
                  clear hbRb hbRx hKX
                  go_wp2_with fail
                  have hz := put10 (HBRX.out) (.int .i64 0) (.int .i64 0) (.string E0) (.string E0) (.int .i64 0) (.int .i64 0) (.int .i64 0) (.string E0) (.slice none 0 0) (.slice none 0 0)
                  have hkz := (hkx).put10 (R := R) (.inr (Nat.le_of_eq HR.out.symm)) (.int .i64 0) (.int .i64 0) (.string E0) (.string E0) (.int .i64 0) (.int .i64 0) (.int .i64 0) (.string E0) (.slice none 0 0) (.slice none 0 0)
                  obtain ⟨Z, hZ⟩ : ∃ Z, Z = (((((((((((wa3.setCell ⟨C, 7, none⟩ (.string ut)).setCell ⟨R, 0, none⟩ (.int .i64 0)).setCell ⟨R, 1, none⟩ (.int .i64 0)).setCell ⟨R, 2, none⟩ (.string E0)).setCell ⟨R, 3, none⟩ (.string E0)).setCell ⟨R, 4, none⟩ (.int .i64 0)).setCell ⟨R, 5, none⟩ (.int .i64 0)).setCell ⟨R, 6, none⟩ (.int .i64 0)).setCell ⟨R, 7, none⟩ (.string E0)).setCell ⟨R, 8, none⟩ (.slice none 0 0)).setCell ⟨R, 9, none⟩ (.slice none 0 0)) := ⟨_, rfl⟩
                  rw [← hZ] at hz hkz ⊢
                  have HZ := Lib.hid hZ
                  clear hZ
                  obtain ⟨⟨z0, z1, z2, z3, z4, z5, z6, z7, z8, z9⟩, -⟩ := read10 hz
                  refine bodyPost_ret (ret_cmd _ _ R 14 (by kernel_rfl) (by kernel_rfl) z0 z1 z2 z3 z4 z5 z6 z7 z8 z9) rfl ?_
                  exact ⟨_, _, rfl, nilBools _, nilBools _, hkz⟩
              · have n2 : v2 < 0 := by omega
                have hpar : pc = zeroCmd ∧ pe = 14 := by
                  have := HPAR.out
                  rw [read_4, if_neg (fun h => h2 (by rw [HV2.out]; exact h.2.1))] at this
                  simp only [okOr, Prod.mk.injEq] at this
                  exact this
                obtain ⟨rfl, rfl⟩ := hpar
                have hbRb := Kp.blockAt (X := [C]) HBRL.out hRC _ hK
                obtain ⟨⟨r0, r1, r2, r3, r4, r5, r6, r7, r8, r9⟩, rf⟩ := read10 hbRb
                have hKX : Kp [C] wl (wa3.setCell ⟨C, 7, none⟩ (.string ut)) := hK.setCell (p := ⟨C, 7, none⟩) (.inl (by simp)) _
                have hbRx := Kp.blockAt (X := [C]) HBRL.out hRC _ hKX
                have HBRX := Lib.hid hbRx
                have hkx := Kp.over hkwl hKX hwC
                have HKX := Lib.hid hKX
                clear hbRb hbRx hKX
                go_wp2_with fail
                have hz := put10 (HBRX.out) (.int .i64 0) (.int .i64 0) (.string E0) (.string E0) (.int .i64 0) (.int .i64 0) (.int .i64 0) (.string E0) (.slice none 0 0) (.slice none 0 0)
                have hkz := (hkx).put10 (R := R) (.inr (Nat.le_of_eq HR.out.symm)) (.int .i64 0) (.int .i64 0) (.string E0) (.string E0) (.int .i64 0) (.int .i64 0) (.int .i64 0) (.string E0) (.slice none 0 0) (.slice none 0 0)
                obtain ⟨Z, hZ⟩ : ∃ Z, Z = (((((((((((wa3.setCell ⟨C, 7, none⟩ (.string ut)).setCell ⟨R, 0, none⟩ (.int .i64 0)).setCell ⟨R, 1, none⟩ (.int .i64 0)).setCell ⟨R, 2, none⟩ (.string E0)).setCell ⟨R, 3, none⟩ (.string E0)).setCell ⟨R, 4, none⟩ (.int .i64 0)).setCell ⟨R, 5, none⟩ (.int .i64 0)).setCell ⟨R, 6, none⟩ (.int .i64 0)).setCell ⟨R, 7, none⟩ (.string E0)).setCell ⟨R, 8, none⟩ (.slice none 0 0)).setCell ⟨R, 9, none⟩ (.slice none 0 0)) := ⟨_, rfl⟩
                rw [← hZ] at hz hkz ⊢
                have HZ := Lib.hid hZ
                clear hZ
                obtain ⟨⟨z0, z1, z2, z3, z4, z5, z6, z7, z8, z9⟩, -⟩ := read10 hz
                refine bodyPost_ret (ret_cmd _ _ R 14 (by kernel_rfl) (by kernel_rfl) z0 z1 z2 z3 z4 z5 z6 z7 z8 z9) rfl ?_
                exact ⟨_, _, rfl, nilBools _, nilBools _, hkz⟩
          · obtain ⟨x1, rfl⟩ : ∃ x1, rest = [x1] := by
              match rest, HLEN.out with
              | [x1], _ => exact ⟨x1, rfl⟩
            obtain rfl : rl = 1 := HRL.out
            have g1 := HCLS.out 1 x1 rfl
            have y1 : x1.size < 16384 := by have := HPZ.out x1 (by simp); omega
            replace hcmd : wr.heap[C]? = some (.cells #[.int .i64 5, .int .i64 0, .string E0, .string E0, .int .i64 0, .int .i64 0, .int .i64 0, .string E0, .slice none 0 0, .slice none 0 0] 26 (0, 0)) := hcmd
            obtain ⟨⟨c0, c1, c2, c3, c4, c5, c6, c7, c8, c9⟩, cf⟩ := read10 hcmd
            go_wp2_with fail
            refine (rdig x1 _ y1).mono ?_
            rintro e wa1 ⟨rfl, kk⟩
            obtain ⟨v1, hv1⟩ : ∃ v, v = nv x1 := ⟨_, rfl⟩
            rw [show numV x1.data.toList = v1 from hv1.symm]
            have HV1 := Lib.hid hv1
            clear hv1
            replace hK := hK.call kk
            replace hcmd := Kp.blockAt (X := []) hcmd (by simp) _ kk
            clear kk c0 c1 c2 c3 c4 c5 c6 c7 c8 c9 cf
            obtain ⟨⟨c0, c1, c2, c3, c4, c5, c6, c7, c8, c9⟩, cf⟩ := read10 hcmd
            by_cases h1 : 0 ≤ v1
            · have hpar : pc = ⟨5, 0, E0, E0, 0, v1, 0, E0, [], []⟩ ∧ pe = 0 := by
                have := HPAR.out
                rw [read_5, if_pos (by rw [← HV1.out]; exact h1), ← HV1.out] at this
                simp only [okOr, Prod.mk.injEq] at this
                exact this
              obtain ⟨rfl, rfl⟩ := hpar
              have hbRb := Kp.blockAt (X := [C]) HBRL.out hRC _ hK
              obtain ⟨⟨r0, r1, r2, r3, r4, r5, r6, r7, r8, r9⟩, rf⟩ := read10 hbRb
              have hKX : Kp [C] wl (wa1.setCell ⟨C, 5, none⟩ (.int .i64 v1)) := hK.setCell (p := ⟨C, 5, none⟩) (.inl (by simp)) _
              have hbRx := Kp.blockAt (X := [C]) HBRL.out hRC _ hKX
              have HBRX := Lib.hid hbRx
              have hkx := Kp.over hkwl hKX hwC
              have HKX := Lib.hid hKX
              clear hbRb hbRx hKX
              go_wp2_with fail
              have hz := put10 (HBRX.out) (.int .i64 5) (.int .i64 0) (.string E0) (.string E0) (.int .i64 0) (.int .i64 v1) (.int .i64 0) (.string E0) (.slice none 0 0) (.slice none 0 0)
              have hkz := (hkx).put10 (R := R) (.inr (Nat.le_of_eq HR.out.symm)) (.int .i64 5) (.int .i64 0) (.string E0) (.string E0) (.int .i64 0) (.int .i64 v1) (.int .i64 0) (.string E0) (.slice none 0 0) (.slice none 0 0)
              obtain ⟨Z, hZ⟩ : ∃ Z, Z = (((((((((((wa1.setCell ⟨C, 5, none⟩ (.int .i64 v1)).setCell ⟨R, 0, none⟩ (.int .i64 5)).setCell ⟨R, 1, none⟩ (.int .i64 0)).setCell ⟨R, 2, none⟩ (.string E0)).setCell ⟨R, 3, none⟩ (.string E0)).setCell ⟨R, 4, none⟩ (.int .i64 0)).setCell ⟨R, 5, none⟩ (.int .i64 v1)).setCell ⟨R, 6, none⟩ (.int .i64 0)).setCell ⟨R, 7, none⟩ (.string E0)).setCell ⟨R, 8, none⟩ (.slice none 0 0)).setCell ⟨R, 9, none⟩ (.slice none 0 0)) := ⟨_, rfl⟩
              rw [← hZ] at hz hkz ⊢
              have HZ := Lib.hid hZ
              clear hZ
              obtain ⟨⟨z0, z1, z2, z3, z4, z5, z6, z7, z8, z9⟩, -⟩ := read10 hz
              refine bodyPost_ret (ret_cmd _ _ R 0 (by kernel_rfl) (by kernel_rfl) z0 z1 z2 z3 z4 z5 z6 z7 z8 z9) rfl ?_
              exact ⟨_, _, rfl, nilBools _, nilBools _, hkz⟩
            · have n1 : v1 < 0 := by omega
              have hpar : pc = zeroCmd ∧ pe = 14 := by
                have := HPAR.out
                rw [read_5, if_neg (fun h => h1 (by rw [HV1.out]; exact h))] at this
                simp only [okOr, Prod.mk.injEq] at this
                exact this
              obtain ⟨rfl, rfl⟩ := hpar
              have hbRb := Kp.blockAt (X := [C]) HBRL.out hRC _ hK
              obtain ⟨⟨r0, r1, r2, r3, r4, r5, r6, r7, r8, r9⟩, rf⟩ := read10 hbRb
              have hKX : Kp [C] wl (wa1.setCell ⟨C, 5, none⟩ (.int .i64 v1)) := hK.setCell (p := ⟨C, 5, none⟩) (.inl (by simp)) _
              have hbRx := Kp.blockAt (X := [C]) HBRL.out hRC _ hKX
              have HBRX := Lib.hid hbRx
              have hkx := Kp.over hkwl hKX hwC
              have HKX := Lib.hid hKX
              clear hbRb hbRx hKX
              go_wp2_with fail
              have hz := put10 (HBRX.out) (.int .i64 0) (.int .i64 0) (.string E0) (.string E0) (.int .i64 0) (.int .i64 0) (.int .i64 0) (.string E0) (.slice none 0 0) (.slice none 0 0)
              have hkz := (hkx).put10 (R := R) (.inr (Nat.le_of_eq HR.out.symm)) (.int .i64 0) (.int .i64 0) (.string E0) (.string E0) (.int .i64 0) (.int .i64 0) (.int .i64 0) (.string E0) (.slice none 0 0) (.slice none 0 0)
              obtain ⟨Z, hZ⟩ : ∃ Z, Z = (((((((((((wa1.setCell ⟨C, 5, none⟩ (.int .i64 v1)).setCell ⟨R, 0, none⟩ (.int .i64 0)).setCell ⟨R, 1, none⟩ (.int .i64 0)).setCell ⟨R, 2, none⟩ (.string E0)).setCell ⟨R, 3, none⟩ (.string E0)).setCell ⟨R, 4, none⟩ (.int .i64 0)).setCell ⟨R, 5, none⟩ (.int .i64 0)).setCell ⟨R, 6, none⟩ (.int .i64 0)).setCell ⟨R, 7, none⟩ (.string E0)).setCell ⟨R, 8, none⟩ (.slice none 0 0)).setCell ⟨R, 9, none⟩ (.slice none 0 0)) := ⟨_, rfl⟩
              rw [← hZ] at hz hkz ⊢
              have HZ := Lib.hid hZ
              clear hZ
              obtain ⟨⟨z0, z1, z2, z3, z4, z5, z6, z7, z8, z9⟩, -⟩ := read10 hz
              refine bodyPost_ret (ret_cmd _ _ R 14 (by kernel_rfl) (by kernel_rfl) z0 z1 z2 z3 z4 z5 z6 z7 z8 z9) rfl ?_
              exact ⟨_, _, rfl, nilBools _, nilBools _, hkz⟩
          · obtain ⟨x1, rfl⟩ : ∃ x1, rest = [x1] := by
              match rest, HLEN.out with
              | [x1], _ => exact ⟨x1, rfl⟩
            obtain rfl : rl = 1 := HRL.out
            have g1 := HCLS.out 1 x1 rfl
            have y1 : x1.size < 16384 := by have := HPZ.out x1 (by simp); omega
            replace hcmd : wr.heap[C]? = some (.cells #[.int .i64 6, .int .i64 0, .string E0, .string E0, .int .i64 0, .int .i64 0, .int .i64 0, .string E0, .slice none 0 0, .slice none 0 0] 26 (0, 0)) := hcmd
            obtain ⟨⟨c0, c1, c2, c3, c4, c5, c6, c7, c8, c9⟩, cf⟩ := read10 hcmd
            go_wp2_with fail
            refine (rdig x1 _ y1).mono ?_
            rintro e wa1 ⟨rfl, kk⟩
            obtain ⟨v1, hv1⟩ : ∃ v, v = nv x1 := ⟨_, rfl⟩
            rw [show numV x1.data.toList = v1 from hv1.symm]
            have HV1 := Lib.hid hv1
            clear hv1
            replace hK := hK.call kk
            replace hcmd := Kp.blockAt (X := []) hcmd (by simp) _ kk
            clear kk c0 c1 c2 c3 c4 c5 c6 c7 c8 c9 cf
            obtain ⟨⟨c0, c1, c2, c3, c4, c5, c6, c7, c8, c9⟩, cf⟩ := read10 hcmd
            by_cases h1 : 0 ≤ v1
            · have hpar : pc = ⟨6, 0, E0, E0, 0, v1, 0, E0, [], []⟩ ∧ pe = 0 := by
                have := HPAR.out
                rw [read_6, if_pos (by rw [← HV1.out]; exact h1), ← HV1.out] at this
                simp only [okOr, Prod.mk.injEq] at this
                exact this
              obtain ⟨rfl, rfl⟩ := hpar
              have hbRb := Kp.blockAt (X := [C]) HBRL.out hRC _ hK
              obtain ⟨⟨r0, r1, r2, r3, r4, r5, r6, r7, r8, r9⟩, rf⟩ := read10 hbRb
              have hKX : Kp [C] wl (wa1.setCell ⟨C, 5, none⟩ (.int .i64 v1)) := hK.setCell (p := ⟨C, 5, none⟩) (.inl (by simp)) _
              have hbRx := Kp.blockAt (X := [C]) HBRL.out hRC _ hKX
              have HBRX := Lib.hid hbRx
              have hkx := Kp.over hkwl hKX hwC
              have HKX := Lib.hid hKX
              clear hbRb hbRx hKX
              go_wp2_with fail
              have hz := put10 (HBRX.out) (.int .i64 6) (.int .i64 0) (.string E0) (.string E0) (.int .i64 0) (.int .i64 v1) (.int .i64 0) (.string E0) (.slice none 0 0) (.slice none 0 0)
              have hkz := (hkx).put10 (R := R) (.inr (Nat.le_of_eq HR.out.symm)) (.int .i64 6) (.int .i64 0) (.string E0) (.string E0) (.int .i64 0) (.int .i64 v1) (.int .i64 0) (.string E0) (.slice none 0 0) (.slice none 0 0)
              obtain ⟨Z, hZ⟩ : ∃ Z, Z = (((((((((((wa1.setCell ⟨C, 5, none⟩ (.int .i64 v1)).setCell ⟨R, 0, none⟩ (.int .i64 6)).setCell ⟨R, 1, none⟩ (.int .i64 0)).setCell ⟨R, 2, none⟩ (.string E0)).setCell ⟨R, 3, none⟩ (.string E0)).setCell ⟨R, 4, none⟩ (.int .i64 0)).setCell ⟨R, 5, none⟩ (.int .i64 v1)).setCell ⟨R, 6, none⟩ (.int .i64 0)).setCell ⟨R, 7, none⟩ (.string E0)).setCell ⟨R, 8, none⟩ (.slice none 0 0)).setCell ⟨R, 9, none⟩ (.slice none 0 0)) := ⟨_, rfl⟩
              rw [← hZ] at hz hkz ⊢
              have HZ := Lib.hid hZ
              clear hZ
              obtain ⟨⟨z0, z1, z2, z3, z4, z5, z6, z7, z8, z9⟩, -⟩ := read10 hz
              refine bodyPost_ret (ret_cmd _ _ R 0 (by kernel_rfl) (by kernel_rfl) z0 z1 z2 z3 z4 z5 z6 z7 z8 z9) rfl ?_
              exact ⟨_, _, rfl, nilBools _, nilBools _, hkz⟩
            · have n1 : v1 < 0 := by omega
              have hpar : pc = zeroCmd ∧ pe = 14 := by
                have := HPAR.out
                rw [read_6, if_neg (fun h => h1 (by rw [HV1.out]; exact h))] at this
                simp only [okOr, Prod.mk.injEq] at this
                exact this
              obtain ⟨rfl, rfl⟩ := hpar
              have hbRb := Kp.blockAt (X := [C]) HBRL.out hRC _ hK
              obtain ⟨⟨r0, r1, r2, r3, r4, r5, r6, r7, r8, r9⟩, rf⟩ := read10 hbRb
              have hKX : Kp [C] wl (wa1.setCell ⟨C, 5, none⟩ (.int .i64 v1)) := hK.setCell (p := ⟨C, 5, none⟩) (.inl (by simp)) _
              have hbRx := Kp.blockAt (X := [C]) HBRL.out hRC _ hKX
              have HBRX := Lib.hid hbRx
              have hkx := Kp.over hkwl hKX hwC
              have HKX := Lib.hid hKX
              clear hbRb hbRx hKX
              go_wp2_with fail
              have hz := put10 (HBRX.out) (.int .i64 0) (.int .i64 0) (.string E0) (.string E0) (.int .i64 0) (.int .i64 0) (.int .i64 0) (.string E0) (.slice none 0 0) (.slice none 0 0)
              have hkz := (hkx).put10 (R := R) (.inr (Nat.le_of_eq HR.out.symm)) (.int .i64 0) (.int .i64 0) (.string E0) (.string E0) (.int .i64 0) (.int .i64 0) (.int .i64 0) (.string E0) (.slice none 0 0) (.slice none 0 0)
              obtain ⟨Z, hZ⟩ : ∃ Z, Z = (((((((((((wa1.setCell ⟨C, 5, none⟩ (.int .i64 v1)).setCell ⟨R, 0, none⟩ (.int .i64 0)).setCell ⟨R, 1, none⟩ (.int .i64 0)).setCell ⟨R, 2, none⟩ (.string E0)).setCell ⟨R, 3, none⟩ (.string E0)).setCell ⟨R, 4, none⟩ (.int .i64 0)).setCell ⟨R, 5, none⟩ (.int .i64 0)).setCell ⟨R, 6, none⟩ (.int .i64 0)).setCell ⟨R, 7, none⟩ (.string E0)).setCell ⟨R, 8, none⟩ (.slice none 0 0)).setCell ⟨R, 9, none⟩ (.slice none 0 0)) := ⟨_, rfl⟩
              rw [← hZ] at hz hkz ⊢
              have HZ := Lib.hid hZ
              clear hZ
              obtain ⟨⟨z0, z1, z2, z3, z4, z5, z6, z7, z8, z9⟩, -⟩ := read10 hz
              refine bodyPost_ret (ret_cmd _ _ R 14 (by kernel_rfl) (by kernel_rfl) z0 z1 z2 z3 z4 z5 z6 z7 z8 z9) rfl ?_
              exact ⟨_, _, rfl, nilBools _, nilBools _, hkz⟩
          · obtain ⟨x1, x2, rfl⟩ : ∃ x1 x2, rest = [x1, x2] := by
              match rest, HLEN.out with
              | [x1, x2], _ => exact ⟨x1, x2, rfl⟩
            obtain rfl : rl = 2 := HRL.out
            have g1 := HCLS.out 1 x1 rfl
            have y1 : x1.size < 16384 := by have := HPZ.out x1 (by simp); omega
            have g2 := HCLS.out 2 x2 rfl
            have y2 : x2.size < 16384 := by have := HPZ.out x2 (by simp); omega
            replace hcmd : wr.heap[C]? = some (.cells #[.int .i64 7, .int .i64 0, .string E0, .string E0, .int .i64 0, .int .i64 0, .int .i64 0, .string E0, .slice none 0 0, .slice none 0 0] 26 (0, 0)) := hcmd
            obtain ⟨⟨c0, c1, c2, c3, c4, c5, c6, c7, c8, c9⟩, cf⟩ := read10 hcmd
            go_wp2_with fail
            have hb0_1 : C < (wr).heap.size := lt_of_block hcmd
            refine (rmarks x1 _ y1).mono ?_
            rintro e wa1 ⟨m1, rfl, ⟨l1, q1, p1, rfl, hm1, hz1, he1⟩, kk⟩
            obtain ⟨s1, hs1⟩ : ∃ u, u = (marksR x1.data.toList).isSome := ⟨_, rfl⟩
            rw [← hs1]
            have HS1 := Lib.hid hs1
            have HM1 := Lib.hid hm1
            have HE1 := Lib.hid he1
            clear hs1 hm1 he1
            replace hK := hK.call kk
            replace hcmd := Kp.blockAt (X := []) hcmd (by simp) _ kk
            clear kk c0 c1 c2 c3 c4 c5 c6 c7 c8 c9 cf
            obtain ⟨⟨c0, c1, c2, c3, c4, c5, c6, c7, c8, c9⟩, cf⟩ := read10 hcmd
            go_wp2_with fail
            have hb0_2 : C < (wa1).heap.size := lt_of_block hcmd
            refine (rmarks x2 _ y2).mono ?_
            rintro e wa2 ⟨m2, rfl, ⟨l2, q2, p2, rfl, hm2, hz2, he2⟩, kk⟩
            obtain ⟨s2, hs2⟩ : ∃ u, u = (marksR x2.data.toList).isSome := ⟨_, rfl⟩
            rw [← hs2]
            have HS2 := Lib.hid hs2
            have HM2 := Lib.hid hm2
            have HE2 := Lib.hid he2
            clear hs2 hm2 he2
            have HKK := Lib.hid kk
            replace hK := hK.call kk
            replace hcmd := Kp.blockAt (X := []) hcmd (by simp) _ kk
            clear kk c0 c1 c2 c3 c4 c5 c6 c7 c8 c9 cf
            obtain ⟨⟨c0, c1, c2, c3, c4, c5, c6, c7, c8, c9⟩, cf⟩ := read10 hcmd
            cases s1 with
            | false =>
              have hpar : pc = zeroCmd ∧ pe = 14 := by
                have := HPAR.out
                rw [read_7, if_neg (fun h => by have h3 := h.1; rw [← HS1.out] at h3; cases h3)] at this
                simp only [okOr, Prod.mk.injEq] at this
                exact this
              obtain ⟨rfl, rfl⟩ := hpar
              have hbRb := Kp.blockAt (X := [C]) HBRL.out hRC _ hK
              obtain ⟨⟨r0, r1, r2, r3, r4, r5, r6, r7, r8, r9⟩, rf⟩ := read10 hbRb
              have hKX : Kp [C] wl ((wa2.setCell ⟨C, 8, none⟩ (.slice q1 l1.length p1)).setCell ⟨C, 9, none⟩ (.slice q2 l2.length p2)) := (hK.setCell (p := ⟨C, 8, none⟩) (.inl (by simp)) _).setCell (p := ⟨C, 9, none⟩) (.inl (by simp)) _
              have hbRx := Kp.blockAt (X := [C]) HBRL.out hRC _ hKX
              have HBRX := Lib.hid hbRx
              have hkx := Kp.over hkwl hKX hwC
              have HKX := Lib.hid hKX
              clear hbRb hbRx hKX
              go_wp2_with fail
              have hz := put10 (HBRX.out) (.int .i64 0) (.int .i64 0) (.string E0) (.string E0) (.int .i64 0) (.int .i64 0) (.int .i64 0) (.string E0) (.slice none 0 0) (.slice none 0 0)
              have hkz := (hkx).put10 (R := R) (.inr (Nat.le_of_eq HR.out.symm)) (.int .i64 0) (.int .i64 0) (.string E0) (.string E0) (.int .i64 0) (.int .i64 0) (.int .i64 0) (.string E0) (.slice none 0 0) (.slice none 0 0)
              obtain ⟨Z, hZ⟩ : ∃ Z, Z = ((((((((((((wa2.setCell ⟨C, 8, none⟩ (.slice q1 l1.length p1)).setCell ⟨C, 9, none⟩ (.slice q2 l2.length p2)).setCell ⟨R, 0, none⟩ (.int .i64 0)).setCell ⟨R, 1, none⟩ (.int .i64 0)).setCell ⟨R, 2, none⟩ (.string E0)).setCell ⟨R, 3, none⟩ (.string E0)).setCell ⟨R, 4, none⟩ (.int .i64 0)).setCell ⟨R, 5, none⟩ (.int .i64 0)).setCell ⟨R, 6, none⟩ (.int .i64 0)).setCell ⟨R, 7, none⟩ (.string E0)).setCell ⟨R, 8, none⟩ (.slice none 0 0)).setCell ⟨R, 9, none⟩ (.slice none 0 0)) := ⟨_, rfl⟩
              rw [← hZ] at hz hkz ⊢
              have HZ := Lib.hid hZ
              clear hZ
              obtain ⟨⟨z0, z1, z2, z3, z4, z5, z6, z7, z8, z9⟩, -⟩ := read10 hz
              refine bodyPost_ret (ret_cmd _ _ R 14 (by kernel_rfl) (by kernel_rfl) z0 z1 z2 z3 z4 z5 z6 z7 z8 z9) rfl ?_
              exact ⟨_, _, rfl, nilBools _, nilBools _, hkz⟩
            | true =>
              cases s2 with
              | false =>
                have hpar : pc = zeroCmd ∧ pe = 14 := by
                  have := HPAR.out
                  rw [read_7, if_neg (fun h => by have h3 := h.2; rw [← HS2.out] at h3; cases h3)] at this
                  simp only [okOr, Prod.mk.injEq] at this
                  exact this
                obtain ⟨rfl, rfl⟩ := hpar
                have hbRb := Kp.blockAt (X := [C]) HBRL.out hRC _ hK
                obtain ⟨⟨r0, r1, r2, r3, r4, r5, r6, r7, r8, r9⟩, rf⟩ := read10 hbRb
                have hKX : Kp [C] wl ((wa2.setCell ⟨C, 8, none⟩ (.slice q1 l1.length p1)).setCell ⟨C, 9, none⟩ (.slice q2 l2.length p2)) := (hK.setCell (p := ⟨C, 8, none⟩) (.inl (by simp)) _).setCell (p := ⟨C, 9, none⟩) (.inl (by simp)) _
                have hbRx := Kp.blockAt (X := [C]) HBRL.out hRC _ hKX
                have HBRX := Lib.hid hbRx
                have hkx := Kp.over hkwl hKX hwC
                have HKX := Lib.hid hKX
                clear hbRb hbRx hKX
                go_wp2_with fail
                have hz := put10 (HBRX.out) (.int .i64 0) (.int .i64 0) (.string E0) (.string E0) (.int .i64 0) (.int .i64 0) (.int .i64 0) (.string E0) (.slice none 0 0) (.slice none 0 0)
                have hkz := (hkx).put10 (R := R) (.inr (Nat.le_of_eq HR.out.symm)) (.int .i64 0) (.int .i64 0) (.string E0) (.string E0) (.int .i64 0) (.int .i64 0) (.int .i64 0) (.string E0) (.slice none 0 0) (.slice none 0 0)
                obtain ⟨Z, hZ⟩ : ∃ Z, Z = ((((((((((((wa2.setCell ⟨C, 8, none⟩ (.slice q1 l1.length p1)).setCell ⟨C, 9, none⟩ (.slice q2 l2.length p2)).setCell ⟨R, 0, none⟩ (.int .i64 0)).setCell ⟨R, 1, none⟩ (.int .i64 0)).setCell ⟨R, 2, none⟩ (.string E0)).setCell ⟨R, 3, none⟩ (.string E0)).setCell ⟨R, 4, none⟩ (.int .i64 0)).setCell ⟨R, 5, none⟩ (.int .i64 0)).setCell ⟨R, 6, none⟩ (.int .i64 0)).setCell ⟨R, 7, none⟩ (.string E0)).setCell ⟨R, 8, none⟩ (.slice none 0 0)).setCell ⟨R, 9, none⟩ (.slice none 0 0)) := ⟨_, rfl⟩
                rw [← hZ] at hz hkz ⊢
                have HZ := Lib.hid hZ
                clear hZ
                obtain ⟨⟨z0, z1, z2, z3, z4, z5, z6, z7, z8, z9⟩, -⟩ := read10 hz
                refine bodyPost_ret (ret_cmd _ _ R 14 (by kernel_rfl) (by kernel_rfl) z0 z1 z2 z3 z4 z5 z6 z7 z8 z9) rfl ?_
                exact ⟨_, _, rfl, nilBools _, nilBools _, hkz⟩
              | true =>
                obtain ⟨a1, ea1⟩ := Option.isSome_iff_exists.1 HS1.out.symm
                obtain ⟨a2, ea2⟩ := Option.isSome_iff_exists.1 HS2.out.symm
                obtain rfl := HE1.out a1 ea1
                obtain rfl := HE2.out a2 ea2
                have hpar : pc = ⟨7, 0, E0, E0, 0, 0, 0, E0, l1, l2⟩ ∧ pe = 0 := by
                  have := HPAR.out
                  rw [read_7, if_pos ⟨HS1.out.symm, HS2.out.symm⟩, ea1, ea2] at this
                  simp only [okOr, Prod.mk.injEq] at this
                  exact this
                obtain ⟨rfl, rfl⟩ := hpar
                clear ea1 ea2
                have hbRb := Kp.blockAt (X := [C]) HBRL.out hRC _ hK
                obtain ⟨⟨r0, r1, r2, r3, r4, r5, r6, r7, r8, r9⟩, rf⟩ := read10 hbRb
                have hKX : Kp [C] wl ((wa2.setCell ⟨C, 8, none⟩ (.slice q1 l1.length p1)).setCell ⟨C, 9, none⟩ (.slice q2 l2.length p2)) := (hK.setCell (p := ⟨C, 8, none⟩) (.inl (by simp)) _).setCell (p := ⟨C, 9, none⟩) (.inl (by simp)) _
                have hbRx := Kp.blockAt (X := [C]) HBRL.out hRC _ hKX
                have HBRX := Lib.hid hbRx
                have hkx := Kp.over hkwl hKX hwC
                have HKX := Lib.hid hKX
                clear hbRb hbRx hKX
                go_wp2_with fail
                have hz := put10 (HBRX.out) (.int .i64 7) (.int .i64 0) (.string E0) (.string E0) (.int .i64 0) (.int .i64 0) (.int .i64 0) (.string E0) (.slice q1 l1.length p1) (.slice q2 l2.length p2)
                have hkz := (hkx).put10 (R := R) (.inr (Nat.le_of_eq HR.out.symm)) (.int .i64 7) (.int .i64 0) (.string E0) (.string E0) (.int .i64 0) (.int .i64 0) (.int .i64 0) (.string E0) (.slice q1 l1.length p1) (.slice q2 l2.length p2)
                obtain ⟨Z, hZ⟩ : ∃ Z, Z = ((((((((((((wa2.setCell ⟨C, 8, none⟩ (.slice q1 l1.length p1)).setCell ⟨C, 9, none⟩ (.slice q2 l2.length p2)).setCell ⟨R, 0, none⟩ (.int .i64 7)).setCell ⟨R, 1, none⟩ (.int .i64 0)).setCell ⟨R, 2, none⟩ (.string E0)).setCell ⟨R, 3, none⟩ (.string E0)).setCell ⟨R, 4, none⟩ (.int .i64 0)).setCell ⟨R, 5, none⟩ (.int .i64 0)).setCell ⟨R, 6, none⟩ (.int .i64 0)).setCell ⟨R, 7, none⟩ (.string E0)).setCell ⟨R, 8, none⟩ (.slice q1 l1.length p1)).setCell ⟨R, 9, none⟩ (.slice q2 l2.length p2)) := ⟨_, rfl⟩
                rw [← hZ] at hz hkz ⊢
                have HZ := Lib.hid hZ
                clear hZ
                obtain ⟨⟨z0, z1, z2, z3, z4, z5, z6, z7, z8, z9⟩, -⟩ := read10 hz
                refine bodyPost_ret (ret_cmd _ _ R 0 (by kernel_rfl) (by kernel_rfl) z0 z1 z2 z3 z4 z5 z6 z7 z8 z9) rfl ?_
                have kX : Kp [C, R] wa2 Z := by
                  rw [HZ.out]
                  exact (((Kp.refl [C, R] wa2).setCell (p := ⟨C, 8, none⟩) (.inl (by simp)) _).setCell (p := ⟨C, 9, none⟩) (.inl (by simp)) _).put10 (.inl (by simp)) _ _ _ _ _ _ _ _ _ _
                exact ⟨_, _, rfl, HM1.out _ _ ((HKK.out.weaken (fun _ _ h => by cases h)).trans kX) (fun i hi => by simp only [List.mem_cons, List.not_mem_nil, or_false] at hi; rcases hi with rfl | rfl <;> omega), HM2.out _ _ kX (fun i hi => by simp only [List.mem_cons, List.not_mem_nil, or_false] at hi; rcases hi with rfl | rfl <;> omega), hkz⟩
  · have h5I : ¬ (5 : Int) ≤ s.size := by omega
    have h5b : decide ((5 : Int) ≤ s.size) = false := decide_eq_false h5I
    go_enter Tryz.func13, Tryz.ntmps13
    go_wp2_with fail
    rw [← Hw0.out, ← HR.out]
    refine (rwords s hs _).mono ?_
    rintro e w1 ⟨v, rfl, ⟨ys, hys, hown⟩, k1⟩
    obtain rfl : ys = piecesOf s := by
      have h := hys.trans (pieces_words s).symm
      exact map_data_inj _ _ h
    obtain ⟨xs, hxs⟩ : ∃ xs, xs = piecesOf s := ⟨_, rfl⟩
    rw [← hxs] at hown
    have HXS := Lib.hid hxs
    obtain ⟨x0, rest, rfl⟩ : ∃ x0 rest, xs = x0 :: rest := by
      match xs, HXS.out with
      | [], h => exact absurd (congrArg List.length h) (by rw [pieces_len]; simp)
      | x0 :: rest, _ => exact ⟨x0, rest, rfl⟩
    obtain ⟨B, cp, hv, hBge, hcells⟩ : ∃ B cp, v = .slice (some ⟨B, 0, none⟩) (rest.length + 1) cp ∧ w0.heap.size ≤ B ∧ ∀ (j : Nat) (x : ByteArray), (x0 :: rest)[j]? = some x → w1.cell? ⟨B, j, none⟩ = some (.string x) := by
      obtain ⟨hl1, ⟨hv, hn⟩ | ⟨g, cap, cur, hv, hg, hb', hc, hm, hs, ht⟩⟩ := hown
      · simp at hn
      · refine ⟨g, cap, hv, hg, fun j x hj => cell_of_cells hb' ?_⟩
        rw [← Array.getElem?_toList]
        have h2 : (cur.toList.take ((x0 :: rest).length * 1))[j]? = some (.string x) := by rw [ht, List.getElem?_map, hj]; rfl
        rw [List.getElem?_take] at h2
        split at h2
        · exact h2
        · cases h2
    subst hv
    have hBlt := lt_of_cell (hcells 0 x0 rfl)
    have hpar : (pc, pe) = okOr (readC (actOf x0) rest) := by
      rw [HP.out]; unfold parseC; rw [HCL.out, ← HXS.out]; rfl
    have hpz : ∀ x ∈ x0 :: rest, x.size ≤ s.size := by rw [HXS.out]; exact pieces_le s
    obtain ⟨rl, hrl⟩ : ∃ rl, rl = rest.length := ⟨_, rfl⟩
    rw [← hrl]
    have HPAR := Lib.hid hpar
    have HPZ := Lib.hid hpz
    have HRL := Lib.hid hrl
    have HCS := Lib.hid hcells
    have hkw1 := kw0.trans k1
    have hBR1 := Kp.blockAt (X := []) HBR.out (by simp) _ k1
    have hRlt : R < w1.heap.size := lt_of_block hBR1
    have HBR1 := Lib.hid hBR1
    clear hys hown hxs hpar hpz hrl hcells hBge hBR1 HP HCL hcall
    go_wp2_with fail
    obtain ⟨A, hA⟩ : ∃ A, A = w1.heap.size := ⟨_, rfl⟩
    obtain ⟨wl, hwl⟩ : ∃ wl, wl = ((w1.alloc (.cells #[.string ⟨#[107, 101, 101, 112]⟩, .string ⟨#[115, 116, 101, 112]⟩, .string ⟨#[115, 101, 116, 116, 108, 101]⟩, .string ⟨#[115, 112, 111, 105, 108]⟩, .string ⟨#[108, 111, 115, 101]⟩, .string ⟨#[114, 101, 112, 108, 97, 99, 101]⟩, .string ⟨#[99, 114, 97, 115, 104]⟩] 9)).alloc (.cells #[.int .i64 4, .int .i64 2, .int .i64 2, .int .i64 4, .int .i64 2, .int .i64 2, .int .i64 3] 3)).alloc (.cells #[.int .i64 0, .int .i64 0, .string E0, .string E0, .int .i64 0, .int .i64 0, .int .i64 0, .string E0, .slice none 0 0, .slice none 0 0] 26) := ⟨_, rfl⟩
    have hkl : Kp [] w1 wl := hwl ▸ (((Kp.refl _ _).alloc _).alloc _).alloc _
    have hall0 : wl.heap[A]? = some (.cells #[.string ⟨#[107, 101, 101, 112]⟩, .string ⟨#[115, 116, 101, 112]⟩, .string ⟨#[115, 101, 116, 116, 108, 101]⟩, .string ⟨#[115, 112, 111, 105, 108]⟩, .string ⟨#[108, 111, 115, 101]⟩, .string ⟨#[114, 101, 112, 108, 97, 99, 101]⟩, .string ⟨#[99, 114, 97, 115, 104]⟩] 9 (0, 0)) := by rw [hwl, hA]; exact block_alloc (block_alloc (block_new _ _) _) _
    have hlng0 : wl.heap[A + 1]? = some (.cells #[.int .i64 4, .int .i64 2, .int .i64 2, .int .i64 4, .int .i64 2, .int .i64 2, .int .i64 3] 3 (0, 0)) := by rw [hwl, hA]; exact block_alloc (two_new _ _ _) _
    obtain ⟨C, hC⟩ : ∃ C, C = A + 2 := ⟨_, rfl⟩
    have hcmd0 : wl.heap[C]? = some (.cells (zeroV (doTo x0 (rl + 1) 0)) 26 (0, 0)) := by
      rw [doTo_zero, hwl, hC, hA]
      have := block_new ((w1.alloc (.cells #[.string ⟨#[107, 101, 101, 112]⟩, .string ⟨#[115, 116, 101, 112]⟩, .string ⟨#[115, 101, 116, 116, 108, 101]⟩, .string ⟨#[115, 112, 111, 105, 108]⟩, .string ⟨#[108, 111, 115, 101]⟩, .string ⟨#[114, 101, 112, 108, 97, 99, 101]⟩, .string ⟨#[99, 114, 97, 115, 104]⟩] 9)).alloc (.cells #[.int .i64 4, .int .i64 2, .int .i64 2, .int .i64 4, .int .i64 2, .int .i64 2, .int .i64 3] 3)) (.cells #[.int .i64 0, .int .i64 0, .string E0, .string E0, .int .i64 0, .int .i64 0, .int .i64 0, .string E0, .slice none 0 0, .slice none 0 0] 26)
      simp only [World.size_alloc] at this
      exact this
    have HALL0 := Lib.hid hall0
    have HLNG0 := Lib.hid hlng0
    have HWL := Lib.hid hwl
    have HA := Lib.hid hA
    have HC := Lib.hid hC
    have hACw : w1.heap.size ≤ C := by omega
    have hAB : A ≠ C := by omega
    have hLB : A + 1 ≠ C := by omega
    have hBC : B ≠ C := by omega
    have hRC' : R ≠ C := by omega
    have hwC : w.heap.size ≤ C := by have := hkw1.size; omega
    clear hwl hA hC hall0 hlng0
    simp only [E0] at HWL
    rw [show w1.heap.size + 1 + 1 = C from by rw [HC.out, HA.out], ← HA.out, ← HWL.out]
    have d0 : ∀ W, Kp [C] wl W → W.cell? ⟨B, 0, none⟩ = some (.string x0) := Kp.cellAt ((hkl.cell (lt_of_cell (HCS.out 0 x0 rfl)) (by simp)).trans (HCS.out 0 x0 rfl)) (by simpa using hBC)
    have HHK := Lib.hid hkl
    go_loopg [10] 7 (fun g i wr => ∃ n : Nat, n + g = 7 ∧ i = .int .i64 n ∧ Kp [C] wl wr ∧ wr.heap[C]? = some (.cells (zeroV (doTo x0 (rl + 1) n)) 26 (0, 0)))
    case atStart => exact ⟨0, by omega, rfl, Kp.refl _ _, hcmd0⟩
    case round =>
      clear hcmd0
      obtain ⟨n, hn, rfl, hK, hcmd⟩ := hrel
      have HN := Lib.hid hn
      by_cases hlt : n < 7
      · obtain ⟨g', rfl⟩ : ∃ g', gk = g' + 1 := ⟨gk - 1, by omega⟩
        clear hn
        have hltI : (n : Int) < 7 := by omega
        obtain ⟨nm, hnm⟩ : ∃ nm, nm = SB (wordA (n + 1)) := ⟨_, rfl⟩
        obtain ⟨lg, hlg⟩ : ∃ lg : Int, lg = longK (n + 1) := ⟨_, rfl⟩
        have da : ∀ W, Kp [C] wl W → W.cell? ⟨A, n, none⟩ = some (.string nm) := Kp.cellAt (cell_of_cells HALL0.out (by
          rw [hnm]
          match n, hlt with
          | 0, _ => rfl
          | 1, _ => rfl
          | 2, _ => rfl
          | 3, _ => rfl
          | 4, _ => rfl
          | 5, _ => rfl
          | 6, _ => rfl)) (by simpa using hAB)
        have dl : ∀ W, Kp [C] wl W → W.cell? ⟨A + 1, n, none⟩ = some (.int .i64 lg) := Kp.cellAt (cell_of_cells HLNG0.out (by
          rw [hlg]
          match n, hlt with
          | 0, _ => rfl
          | 1, _ => rfl
          | 2, _ => rfl
          | 3, _ => rfl
          | 4, _ => rfl
          | 5, _ => rfl
          | 6, _ => rfl)) (by simpa using hLB)
        have HNM := Lib.hid hnm
        have HLG := Lib.hid hlg
        have c0 : wr.cell? ⟨C, 0, none⟩ = some (.int .i64 (doTo x0 (rl + 1) n)) := cell_of_cells hcmd rfl
        have f0 : wr.frozen? ⟨C, 0, none⟩ = false := frozen_of_cells hcmd _
        have HCMD := Lib.hid hcmd
        have rpos : (0 : Int) < (rl : Int) + 1 := by omega
        clear hnm hlg hcmd
        by_cases hq : x0 = nm
        · have hqe : (x0.toList == nm.toList) = true := by rw [hq]; simp
          have hx : x0 = SB (wordA (n + 1)) := hq.trans HNM.out
          have HX := Lib.hid hx
          clear hx hq
          go_wp2_with fail
          refine wpB_begin 999 (Kp [C] wl) (by kernel_rfl) (by exact hK.drew) (fun hHeld => ?_)
          refine wpB_take 0 _ ?_ rfl (by kernel_rfl) (fun _ _ _ h => h) rfl hHeld ?_ ?_
          rotate_left
          · (intro W hW; go_simp; try with_reducible rfl)
          try simp only [Act.put, List.setIfInBounds_toArray, List.set_cons_zero, List.set_cons_succ]
          refine wpB_take 1 _ ?_ rfl (by kernel_rfl) (fun _ _ _ h => h) rfl hHeld ?_ ?_
          rotate_left
          · (intro W hW; go_simp; try with_reducible rfl)
          try simp only [Act.put, List.setIfInBounds_toArray, List.set_cons_zero, List.set_cons_succ]
          refine wpB_take 2 _ ?_ rfl (by kernel_rfl) (fun _ _ _ h => h) rfl hHeld ?_ ?_
          rotate_left
          · (intro W hW; go_simp; try with_reducible rfl)
          try simp only [Act.put, List.setIfInBounds_toArray, List.set_cons_zero, List.set_cons_succ]
          refine wpB_take 3 _ ?_ rfl (by kernel_rfl) (fun _ _ _ h => h) rfl hHeld ?_ ?_
          rotate_left
          · (intro W hW; go_simp; try with_reducible rfl)
          try simp only [Act.put, List.setIfInBounds_toArray, List.set_cons_zero, List.set_cons_succ]
          refine wpB_take 4 _ ?_ rfl (by kernel_rfl) (fun _ _ _ h => h) rfl hHeld ?_ ?_
          rotate_left
          · (intro W hW; go_simp; try with_reducible rfl)
          try simp only [Act.put, List.setIfInBounds_toArray, List.set_cons_zero, List.set_cons_succ]
          refine wpB_take 5 _ ?_ rfl (by kernel_rfl) (fun _ _ _ h => h) rfl hHeld ?_ ?_
          rotate_left
          · (intro W hW; go_simp; try with_reducible rfl)
          try simp only [Act.put, List.setIfInBounds_toArray, List.set_cons_zero, List.set_cons_succ]
          refine wpB_take 6 _ ?_ rfl (by kernel_rfl) (fun _ _ _ h => h) rfl hHeld ?_ ?_
          rotate_left
          · (intro W hW; go_simp; try with_reducible rfl)
          try simp only [Act.put, List.setIfInBounds_toArray, List.set_cons_zero, List.set_cons_succ]
          refine wpB_take 7 _ ?_ rfl (by kernel_rfl) (fun _ _ _ h => h) rfl hHeld ?_ ?_
          rotate_left
          · (intro W hW; go_simp; try with_reducible rfl)
          try simp only [Act.put, List.setIfInBounds_toArray, List.set_cons_zero, List.set_cons_succ]
          refine wpB_take 8 _ ?_ rfl (by kernel_rfl) (fun _ _ _ h => h) rfl hHeld ?_ ?_
          rotate_left
          · (intro W hW; go_simp; try with_reducible rfl)
          try simp only [Act.put, List.setIfInBounds_toArray, List.set_cons_zero, List.set_cons_succ]
          refine wpB_take 9 _ ?_ rfl (by kernel_rfl) (fun _ _ _ h => h) rfl hHeld ?_ ?_
          rotate_left
          · (intro W hW; go_simp; try with_reducible rfl)
          try simp only [Act.put, List.setIfInBounds_toArray, List.set_cons_zero, List.set_cons_succ]
          refine wpB_take 10 _ ?_ rfl (by kernel_rfl) (fun _ _ _ h => h) rfl hHeld ?_ ?_
          rotate_left
          · (intro W hW; go_simp; try with_reducible rfl)
          try simp only [Act.put, List.setIfInBounds_toArray, List.set_cons_zero, List.set_cons_succ]
          refine wpB_take 11 _ ?_ rfl (by kernel_rfl) (fun _ _ _ h => h) rfl hHeld ?_ ?_
          rotate_left
          · (intro W hW; go_simp; try with_reducible rfl)
          try simp only [Act.put, List.setIfInBounds_toArray, List.set_cons_zero, List.set_cons_succ]
          refine wpB_take 12 _ ?_ rfl (by kernel_rfl) (fun _ _ _ h => h) rfl hHeld ?_ ?_
          rotate_left
          · (intro W hW; go_simp; try with_reducible rfl)
          try simp only [Act.put, List.setIfInBounds_toArray, List.set_cons_zero, List.set_cons_succ]
          refine wpB_take 13 _ ?_ rfl (by kernel_rfl) (fun _ _ _ h => h) rfl hHeld ?_ ?_
          rotate_left
          · (intro W hW; go_simp; try with_reducible rfl)
          try simp only [Act.put, List.setIfInBounds_toArray, List.set_cons_zero, List.set_cons_succ]
          refine wpB_take 14 _ ?_ rfl (by kernel_rfl) (fun _ _ _ h => h) rfl hHeld ?_ ?_
          rotate_left
          · (intro W hW; go_simp; try with_reducible rfl)
          try simp only [Act.put, List.setIfInBounds_toArray, List.set_cons_zero, List.set_cons_succ]
          refine wpB_take 15 _ ?_ rfl (by kernel_rfl) (fun _ _ _ h => h) rfl hHeld ?_ ?_
          rotate_left
          · (intro W hW; go_simp; try with_reducible rfl)
          try simp only [Act.put, List.setIfInBounds_toArray, List.set_cons_zero, List.set_cons_succ]
          refine wpB_take 16 _ ?_ rfl (by kernel_rfl) (fun _ _ _ h => h) rfl hHeld ?_ ?_
          rotate_left
          · (intro W hW; go_simp; try with_reducible rfl)
          try simp only [Act.put, List.setIfInBounds_toArray, List.set_cons_zero, List.set_cons_succ]
          refine wpB_done (by kernel_rfl) ?_ _
          by_cases hm : (rl : Int) + 1 = lg
          · have hmb : ((rl : Int) + 1 == lg) = true := by simpa using hm
            have hst := doTo_yes (m := rl + 1) hlt HX.out (by have := HLG.out; omega)
            have HST := Lib.hid hst
            clear hst hm
            go_wp2_with fail
            go_roundg g'
            case rel =>
              have hn := HN.out
              refine ⟨n + 1, by omega, by go_num, hHeld.setCell (p := ⟨C, 0, none⟩) (.inl (by simp)) _, ?_⟩
              rw [HST.out]
              exact block_setCell (w := wr.drew) HCMD.out 0 _
            case measure => omega
          · have hmb : ((rl : Int) + 1 == lg) = false := by simpa using hm
            have hst := doTo_no (x := x0) (m := rl + 1) hlt (fun h => hm (by have := HLG.out; omega))
            have HST := Lib.hid hst
            clear hst hm
            go_wp2_with fail
            go_roundg g'
            case rel =>
              have hn := HN.out
              refine ⟨n + 1, by omega, by go_num, hHeld, ?_⟩
              rw [HST.out]
              exact HCMD.out
            case measure => omega
        · have hqe := str_ne hq
          have hst := doTo_no (x := x0) (m := rl + 1) hlt (fun h => hq (h.1.trans HNM.out.symm))
          have HST := Lib.hid hst
          clear hst hq
          go_wp2_with fail
          refine wpB_begin 999 (Kp [C] wl) (by kernel_rfl) (by exact hK.drew) (fun hHeld => ?_)
          refine wpB_take 0 _ ?_ rfl (by kernel_rfl) (fun _ _ _ h => h) rfl hHeld ?_ ?_
          rotate_left
          · (intro W hW; go_simp; try with_reducible rfl)
          try simp only [Act.put, List.setIfInBounds_toArray, List.set_cons_zero, List.set_cons_succ]
          refine wpB_take 1 _ ?_ rfl (by kernel_rfl) (fun _ _ _ h => h) rfl hHeld ?_ ?_
          rotate_left
          · (intro W hW; go_simp; try with_reducible rfl)
          try simp only [Act.put, List.setIfInBounds_toArray, List.set_cons_zero, List.set_cons_succ]
          refine wpB_take 2 _ ?_ rfl (by kernel_rfl) (fun _ _ _ h => h) rfl hHeld ?_ ?_
          rotate_left
          · (intro W hW; go_simp; try with_reducible rfl)
          try simp only [Act.put, List.setIfInBounds_toArray, List.set_cons_zero, List.set_cons_succ]
          refine wpB_take 3 _ ?_ rfl (by kernel_rfl) (fun _ _ _ h => h) rfl hHeld ?_ ?_
          rotate_left
          · (intro W hW; go_simp; try with_reducible rfl)
          try simp only [Act.put, List.setIfInBounds_toArray, List.set_cons_zero, List.set_cons_succ]
          refine wpB_take 4 _ ?_ rfl (by kernel_rfl) (fun _ _ _ h => h) rfl hHeld ?_ ?_
          rotate_left
          · (intro W hW; go_simp; try with_reducible rfl)
          try simp only [Act.put, List.setIfInBounds_toArray, List.set_cons_zero, List.set_cons_succ]
          refine wpB_take 5 _ ?_ rfl (by kernel_rfl) (fun _ _ _ h => h) rfl hHeld ?_ ?_
          rotate_left
          · (intro W hW; go_simp; try with_reducible rfl)
          try simp only [Act.put, List.setIfInBounds_toArray, List.set_cons_zero, List.set_cons_succ]
          refine wpB_take 6 _ ?_ rfl (by kernel_rfl) (fun _ _ _ h => h) rfl hHeld ?_ ?_
          rotate_left
          · (intro W hW; go_simp; try with_reducible rfl)
          try simp only [Act.put, List.setIfInBounds_toArray, List.set_cons_zero, List.set_cons_succ]
          refine wpB_take 7 _ ?_ rfl (by kernel_rfl) (fun _ _ _ h => h) rfl hHeld ?_ ?_
          rotate_left
          · (intro W hW; go_simp; try with_reducible rfl)
          try simp only [Act.put, List.setIfInBounds_toArray, List.set_cons_zero, List.set_cons_succ]
          refine wpB_take 8 _ ?_ rfl (by kernel_rfl) (fun _ _ _ h => h) rfl hHeld ?_ ?_
          rotate_left
          · (intro W hW; go_simp; try with_reducible rfl)
          try simp only [Act.put, List.setIfInBounds_toArray, List.set_cons_zero, List.set_cons_succ]
          refine wpB_skip 9 _ rfl (by kernel_rfl) (fun _ _ _ h => h) rfl hHeld ?_
          try simp only [Act.put, List.setIfInBounds_toArray, List.set_cons_zero, List.set_cons_succ]
          refine wpB_skip 10 _ rfl (by kernel_rfl) (fun _ _ _ h => h) rfl hHeld ?_
          try simp only [Act.put, List.setIfInBounds_toArray, List.set_cons_zero, List.set_cons_succ]
          refine wpB_skip 11 _ rfl (by kernel_rfl) (fun _ _ _ h => h) rfl hHeld ?_
          try simp only [Act.put, List.setIfInBounds_toArray, List.set_cons_zero, List.set_cons_succ]
          refine wpB_skip 12 _ rfl (by kernel_rfl) (fun _ _ _ h => h) rfl hHeld ?_
          try simp only [Act.put, List.setIfInBounds_toArray, List.set_cons_zero, List.set_cons_succ]
          refine wpB_skip 13 _ rfl (by kernel_rfl) (fun _ _ _ h => h) rfl hHeld ?_
          try simp only [Act.put, List.setIfInBounds_toArray, List.set_cons_zero, List.set_cons_succ]
          refine wpB_skip 14 _ rfl (by kernel_rfl) (fun _ _ _ h => h) rfl hHeld ?_
          try simp only [Act.put, List.setIfInBounds_toArray, List.set_cons_zero, List.set_cons_succ]
          refine wpB_skip 15 _ rfl (by kernel_rfl) (fun _ _ _ h => h) rfl hHeld ?_
          try simp only [Act.put, List.setIfInBounds_toArray, List.set_cons_zero, List.set_cons_succ]
          refine wpB_take 16 _ ?_ rfl (by kernel_rfl) (fun _ _ _ h => h) rfl hHeld ?_ ?_
          rotate_left
          · (intro W hW; go_simp; try with_reducible rfl)
          try simp only [Act.put, List.setIfInBounds_toArray, List.set_cons_zero, List.set_cons_succ]
          refine wpB_done (by kernel_rfl) ?_ _
          go_wp2_with fail
          go_roundg g'
          case rel =>
            have hn := HN.out
            refine ⟨n + 1, by omega, by go_num, hHeld, ?_⟩
            rw [HST.out]
            exact HCMD.out
          case measure => omega
      · obtain rfl : n = 7 := by omega
        obtain rfl : gk = 0 := by omega
        clear hn HN
        have hcl : ∀ (j : Nat) (x : ByteArray), (x0 :: rest)[j]? = some x → ∀ W, Kp [C] wl W → W.cell? ⟨B, j, none⟩ = some (.string x) := fun j x hj => Kp.cellAt ((HHK.out.cell (lt_of_cell (HCS.out j x hj)) (by simp)).trans (HCS.out j x hj)) (by simpa using hBC)
        have HCLS := Lib.hid hcl
        have hkwl : Kp [] w wl := hkw1.trans HHK.out
        have hbRl := Kp.blockAt (X := []) HBR1.out (by simp) _ HHK.out
        have HBRL := Lib.hid hbRl
        have hRC : R ∉ [C] := by simpa using hRC'
        clear hcl hbRl d0 HALL0 HLNG0 HWL
        have hend := doTo_end (x := x0) (r := rest)
        rw [← HRL.out] at hend
        rcases hend with ⟨hd, hnone⟩ | ⟨k, hk1, hk7, hd, hact, hlen⟩
        · have hpar : pc = zeroCmd ∧ pe = 14 := by
            have := HPAR.out
            rw [hnone] at this
            simp only [okOr, Prod.mk.injEq] at this
            exact this
          obtain ⟨rfl, rfl⟩ := hpar
          rw [hd] at hcmd
          obtain ⟨⟨c0, c1, c2, c3, c4, c5, c6, c7, c8, c9⟩, cf⟩ := read10 hcmd
          clear hd hnone hcmd
          have hbRb := Kp.blockAt (X := [C]) HBRL.out hRC _ hK
          obtain ⟨⟨r0, r1, r2, r3, r4, r5, r6, r7, r8, r9⟩, rf⟩ := read10 hbRb
          have hKX : Kp [C] wl (wr) := hK
          have hbRx := Kp.blockAt (X := [C]) HBRL.out hRC _ hKX
          have HBRX := Lib.hid hbRx
          have hkx := Kp.over hkwl hKX hwC
          have HKX := Lib.hid hKX
          clear hbRb hbRx hKX
          go_wp2_with fail
          have hz := put10 (HBRX.out) (.int .i64 0) (.int .i64 0) (.string E0) (.string E0) (.int .i64 0) (.int .i64 0) (.int .i64 0) (.string E0) (.slice none 0 0) (.slice none 0 0)
          have hkz := (hkx).put10 (R := R) (.inr (Nat.le_of_eq HR.out.symm)) (.int .i64 0) (.int .i64 0) (.string E0) (.string E0) (.int .i64 0) (.int .i64 0) (.int .i64 0) (.string E0) (.slice none 0 0) (.slice none 0 0)
          obtain ⟨Z, hZ⟩ : ∃ Z, Z = (((((((((((wr).setCell ⟨R, 0, none⟩ (.int .i64 0)).setCell ⟨R, 1, none⟩ (.int .i64 0)).setCell ⟨R, 2, none⟩ (.string E0)).setCell ⟨R, 3, none⟩ (.string E0)).setCell ⟨R, 4, none⟩ (.int .i64 0)).setCell ⟨R, 5, none⟩ (.int .i64 0)).setCell ⟨R, 6, none⟩ (.int .i64 0)).setCell ⟨R, 7, none⟩ (.string E0)).setCell ⟨R, 8, none⟩ (.slice none 0 0)).setCell ⟨R, 9, none⟩ (.slice none 0 0)) := ⟨_, rfl⟩
          rw [← hZ] at hz hkz ⊢
          have HZ := Lib.hid hZ
          clear hZ
          obtain ⟨⟨z0, z1, z2, z3, z4, z5, z6, z7, z8, z9⟩, -⟩ := read10 hz
          refine bodyPost_ret (ret_cmd _ _ R 14 (by kernel_rfl) (by kernel_rfl) z0 z1 z2 z3 z4 z5 z6 z7 z8 z9) rfl ?_
          exact ⟨_, _, rfl, nilBools _, nilBools _, hkz⟩
        · rw [hd] at hcmd
          rw [hact] at HPAR
          replace hlen := HRL.out.symm.trans hlen
          have HLEN := Lib.hid hlen
          have HACT := Lib.hid hact
          have hk : k = 1 ∨ k = 2 ∨ k = 3 ∨ k = 4 ∨ k = 5 ∨ k = 6 ∨ k = 7 := by omega
          clear hd hact hlen hk1 hk7
          rcases hk with rfl | rfl | rfl | rfl | rfl | rfl | rfl
          all_goals (exact absurd (short_no HXS.out.symm (by decide) (by decide) HACT.out HLEN.out) h5)
end Go.Proofs.YtmihnakapnoefaaGreatDoor
