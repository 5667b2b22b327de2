/-
  A model's State.
  A model's Copy; Silent; whether requests are small, answers the same.
-/
import Derived.Test.YtlomniffpjndfaaDoorP4
import Derived.Shelf.SlMaps.Clone
namespace Go.Proofs.YtlomniffpjndfaaDoor
open Go.RowKit Go.ChangeMaps Go.Maps Go.WideShapes Go.WideMaps Go.WideElems Go.MapKept Go.ChangeShapes Go.Sort

/-- what State tells of a key -/
def Mdl.tell (M : Mdl) (k : List UInt8) : List UInt8 := if (M.at (SB k)).2 then k ++ [33, 32] else k ++ ([61] ++ hexL (M.at (SB k)).1.data.toList ++ [32])
def Mdl.state (M : Mdl) : List UInt8 := M.keys.flatMap M.tell
theorem flat_next {c : List UInt8 → List UInt8} {l : List (List UInt8)} {n : Nat} (h : n < l.length) : (l.take (n + 1)).flatMap c = (l.take n).flatMap c ++ c l[n] := by
  rw [take_nextS h, List.flatMap_append]
  simp
theorem tell_len {M : Mdl} (hs : Short M) {k : List UInt8} (hk : k.length ≤ 32) : (M.tell k).length ≤ 802 := by
  have hv : (M.at (SB k)).1.size ≤ 384 := by
    unfold Mdl.at
    cases e : aGet (SB k) M with
    | none => decide
    | some q => exact (hs _ (aGet_mem e)).2
  unfold Mdl.tell
  split
  · simp; omega
  · rw [List.length_append, List.length_append, List.length_append, hexL_len]
    simp
    omega
theorem state_len {M : Mdl} (hs : Short M) {l : List (List UInt8)} (hl : ∀ k ∈ l, k.length ≤ 32) : (l.flatMap M.tell).length ≤ l.length * 802 := by
  induction l with
  | nil => simp
  | cons a r ih =>
    rw [List.flatMap_cons, List.length_append, List.length_cons]
    have h1 := tell_len hs (hl a (List.mem_cons_self ..))
    have h2 := ih (fun k hk => hl k (List.mem_cons_of_mem _ hk))
    omega
set_option maxHeartbeats 4000000 in
set_option maxRecDepth 20000 in
theorem mstate {mb eb : Nat} {M : Mdl} (hs : Short M) (hz : M.length ≤ 1000) (w : World) (h : MdAt mb eb w M) :
    Calls Tryd.prog 14 #[Md.p mb] w fun e w' => e = .returned (.string (SB M.state)) ∧ Kp [] w w' := by
  obtain ⟨w1, hw1⟩ : ∃ w1, w1 = w.alloc (.cells #[.pointer none, .slice none 0 0] 62) := ⟨_, rfl⟩
  have k1 : Kp [] w w1 := hw1 ▸ (Kp.refl _ _).alloc _
  obtain ⟨b, hb⟩ : ∃ b, b = w.heap.size := ⟨_, rfl⟩
  have b1 : w1.heap[b]? = some (.cells #[.pointer none, .slice none 0 0] 62 (0, 0)) := by rw [hw1, hb]; exact block_new _ _
  have h1 := h.keep0 k1
  have hlt := h.lts
  have c0 := Kp.cellAt (X := [b]) (cell_of_cells (o := 0) h1.top rfl) (by simp only [List.mem_singleton]; omega)
  have d0 : w1.cell? ⟨mb, 0, none⟩ = some (.map (some eb)) := c0 _ (Kp.refl _ _)
  rw [hw1] at d0
  have hck := callsIn_wide.1 (keysS Fence.wide 2 trivial rfl (some eb) w1)
  obtain ⟨w2, hw2⟩ : ∃ w2, w2 = w1.alloc (.cells #[.map (some eb)] 46) := ⟨_, rfl⟩
  have k2 : Kp [] w1 w2 := hw2 ▸ (Kp.refl _ _).alloc _
  have m2 : w2.cell? ⟨w1.heap.size, 0, none⟩ = some (.map (some eb)) := by rw [hw2]; exact cell_of_cells (block_new _ _) rfl
  have hs2 : w1.heap.size < w2.heap.size := by rw [hw2, World.size_alloc]; exact Nat.lt_succ_self _
  have hso := sorted_known hs (h1.keep0 k2) hz w1.heap.size hs2 m2
  obtain ⟨S, hS⟩ : ∃ S, S = M.keys := ⟨_, rfl⟩
  have hSl : S.length ≤ 1000 := by rw [hS, M.keys_len]; exact hz
  have hsk : ∀ x ∈ S, x.length ≤ 32 := fun x hx => by
    have := key_short hs (k := x) (by rw [← hS]; exact hx)
    rwa [SB_size] at this
  rw [← hS] at hso
  have hmb : mb ∉ [b] := by simp only [List.mem_singleton]; omega
  have heb : eb ∉ [b] := by simp only [List.mem_singleton]; omega
  have HW1 := Lib.hid hw1
  have HW2 := Lib.hid hw2
  have HS := Lib.hid hS
  have HB := Lib.hid hb
  have hbw := lt_of_block b1
  clear hw1 hw2 hS hb
  go_enter Tryd.func14, Tryd.ntmps14
  go_wp2_with fail
  rw [← HW1.out, ← HB.out]
  refine hck.mono ?_
  rintro e w' ⟨rfl, rfl⟩
  rw [← HW2.out]
  go_wp2_with fail
  refine hso.mono ?_
  rintro e w3 ⟨sv, sc, rfl, hO, k3⟩
  have k13 := k2.trans k3
  have hsl3 := SliceAt.of_owns hO
  have hB0 : BldX w3.heap.size w3 b (.slice none 0 0) ((S.take 0).flatMap M.tell) := ⟨⟨_, .inl rfl, (k13.block _ hbw (by simp)).trans b1⟩, World.ownsRow_nil _ _ _ _, Nat.lt_of_lt_of_le hbw k13.size⟩
  have hb3 : b < w3.heap.size := Nat.lt_of_lt_of_le hbw k13.size
  have hK := Kp.refl [b] w3
  have hgeO := own_block_ge hO
  clear hck hso hO d0 m2
  go_wp2_with fail
  go_loopg [16] S.length (fun g i wr => ∃ (n : Nat) (v : Value), n + g = S.length ∧ i = .int .i64 n ∧ Kp [b] w3 wr ∧ BldX w3.heap.size wr b v ((S.take n).flatMap M.tell))
  case atStart => exact ⟨0, _, by omega, rfl, hK, hB0⟩
  case round =>
    clear hK hB0
    obtain ⟨n, v, hn, rfl, hK, hBr⟩ := hrel
    have HN := Lib.hid hn
    by_cases hlt2 : n < S.length
    · obtain ⟨g', rfl⟩ : ∃ g', gk = g' + 1 := ⟨gk - 1, by omega⟩
      clear hn
      have hltI : (n : Int) < (S.length : Int) := by omega
      obtain ⟨sg, so, rfl, hc, -, hsb, hcell⟩ := hsl3.cells (by omega)
      have f0 : w3.cell? ⟨sg, so + n, none⟩ = some (.string (SB S[n])) := hcell n _ (by rw [List.getElem?_map, List.getElem?_eq_getElem hlt2]; rfl)
      obtain ⟨y, hy⟩ : ∃ y, y = S[n] := ⟨_, rfl⟩
      have hyl := hsk _ (List.getElem_mem hlt2)
      rw [← hy] at f0 hyl
      have hsgb : sg ∉ [b] := by
        have := hgeO sg rfl
        simp only [List.mem_singleton]
        omega
      have d1 := (hK.cell (p := ⟨sg, so + n, none⟩) hsb hsgb).trans f0
      obtain ⟨yB, hyB⟩ : ∃ yB, yB = SB y := ⟨_, rfl⟩
      have hyz : yB.size ≤ 32 := by rw [hyB, SB_size]; exact hyl
      have hyd : yB.data.toList = y := by rw [hyB]
      rw [← hyB] at d1
      obtain ⟨al, hal⟩ : ∃ al, al = M.at yB := ⟨_, rfl⟩
      have hal1 : al.1.size ≤ 384 := by
        rw [hal]
        unfold Mdl.at
        cases e : aGet yB M with
        | none => decide
        | some q => exact (hs _ (aGet_mem e)).2
      have htl : M.tell y = if al.2 then y ++ [33, 32] else y ++ ([61] ++ hexL al.1.data.toList ++ [32]) := by
        unfold Mdl.tell; rw [← hyB, ← hal]
      obtain ⟨P, hP⟩ : ∃ P, P = (S.take n).flatMap M.tell := ⟨_, rfl⟩
      have hPl : P.length ≤ 802000 := by
        rw [hP]
        have := state_len hs (l := S.take n) (fun k hk => hsk k (List.mem_of_mem_take hk))
        rw [List.length_take] at this
        omega
      have hnx : (S.take (n + 1)).flatMap M.tell = P ++ M.tell y := by rw [flat_next hlt2, hP, ← hy]
      rw [← hP] at hBr
      have hlk0 := fun W (hM : MdAt mb eb W M) => look_known hM hs (k := yB) (by unfold maxLen; omega) false
      simp only [Bool.false_eq_true, if_false, ← hal] at hlk0
      have HYD := Lib.hid hyd
      have HTL := Lib.hid htl
      have HNX := Lib.hid hnx
      clear f0 hy hyB hal htl hP hnx hyd
      have hk4 : ∀ (v : Value) (l : List UInt8) (w4 w5 : World), BldX w3.heap.size w4 b v l → Kp [b] w3 w4 → Kp (b :: v.ownBlock.toList) w4 w5 → Kp [b] w3 w5 := fun v l w4 w5 h1 h2 h3 => h2.step h3 (fun i hi hm => by
        rcases List.mem_cons.1 hm with hm | hm
        · rw [hm]; exact List.mem_singleton.2 rfl
        · rw [Option.mem_toList] at hm
          have := own_block_ge h1.own i hm
          omega)
      go_wp2_with fail
      refine (wstr w3.heap.size b v P yB wr hBr (by omega) hK.size).mono ?_
      rintro e w4 ⟨v4, rfl, hB4, k4⟩
      have hK4 := hk4 _ _ _ _ hBr hK k4
      have k14 : Kp [b] w1 w4 := (k13.weaken (fun _ _ hm => by cases hm)).trans hK4
      have h4 : MdAt mb eb w4 M := h1.keep k14 hmb heb
      have d4 : w4.cell? ⟨mb, 0, none⟩ = some (.map (some eb)) := c0 _ k14
      have l4 := hlk0 w4 h4
      obtain ⟨w5, hw5⟩ : ∃ w5, w5 = w4.alloc (.cells #[.string al.1, .bool al.2] 68) := ⟨_, rfl⟩
      have k5 : Kp [] w4 w5 := hw5 ▸ (Kp.refl _ _).alloc _
      have hK5 : Kp [b] w3 w5 := hK4.trans (k5.weaken (fun _ _ hm => by cases hm))
      have hB5 := hB4.keep k5 (by simp) (by simp)
      rw [HYD.out] at hB5
      have HW5 := Lib.hid hw5
      clear hBr hB4 d1 hw5 k4
      cases hg : al.2 with
      | true =>
        rw [hg] at l4 HW5 HTL
        have hle : (P ++ y).length + (⟨#[33, 32]⟩ : ByteArray).size ≤ 1000000 := by
          rw [List.length_append]
          show P.length + y.length + 2 ≤ 1000000
          omega
        have hws := wstr w3.heap.size b v4 (P ++ y) ⟨#[33, 32]⟩ w5 hB5 hle hK5.size
        have HBX := Lib.hid hB5
        clear hB5 hle
        go_wp2_with fail
        rw [← HW5.out]
        refine hws.mono ?_
        rintro e w6 ⟨v6, rfl, hB6, k6⟩
        have hK6 := hk4 _ _ _ _ HBX.out hK5 k6
        have hfin : (S.take (n + 1)).flatMap M.tell = (P ++ y) ++ (⟨#[33, 32]⟩ : ByteArray).data.toList := by
          rw [HNX.out, HTL.out]; simp
        rw [← hfin] at hB6
        have HB6 := Lib.hid hB6
        clear hws k6 hB6 hfin l4 d4
        go_wp2_with fail
        go_roundg g'
        case rel => exact ⟨n + 1, v6, st_next HN.out, by go_num, hK6, HB6.out⟩
        case measure => omega
      | false =>
        rw [hg] at l4 HW5 HTL
        have hhx : Calls Tryd.prog 36 #[.string al.1] w5 fun e w' => e = .returned (.string (HX al.1)) ∧ Kp [] w5 w' := hex al.1 (by omega) w5
        obtain ⟨X, hX⟩ : ∃ X, X = HX al.1 := ⟨_, rfl⟩
        have hXz : X.size ≤ 768 := by rw [hX]; show (hexL al.1.data.toList).toArray.size ≤ 768; rw [List.size_toArray, hexL_len]; simp; omega
        have hXd : X.data.toList = hexL al.1.data.toList := by rw [hX]
        rw [← hX] at hhx
        have h1s : (⟨#[61]⟩ : ByteArray).size = 1 := rfl
        have h2s : (⟨#[32]⟩ : ByteArray).size = 1 := rfl
        have HXD := Lib.hid hXd
        clear hX hXd
        go_wp2_with fail
        rw [← HW5.out]
        refine hhx.mono ?_
        rintro e w6 ⟨rfl, k6⟩
        have hK6 : Kp [b] w3 w6 := hK5.trans (k6.weaken (fun _ _ hm => by cases hm))
        have hB6 := hB5.keep k6 (by simp) (by simp)
        have hsz3 : ((⟨#[61]⟩ : ByteArray) ++ X ++ ⟨#[32]⟩).size = X.size + 2 := by rw [ByteArray.size_append, ByteArray.size_append]; show 1 + X.size + 1 = _; omega
        have hle : (P ++ y).length + ((⟨#[61]⟩ : ByteArray) ++ X ++ ⟨#[32]⟩).size ≤ 1000000 := by
          rw [List.length_append, hsz3]
          omega
        have hws := wstr w3.heap.size b v4 (P ++ y) ((⟨#[61]⟩ : ByteArray) ++ X ++ ⟨#[32]⟩) w6 hB6 hle hK6.size
        have hfin : (S.take (n + 1)).flatMap M.tell = (P ++ y) ++ ((⟨#[61]⟩ : ByteArray) ++ X ++ ⟨#[32]⟩).data.toList := by
          rw [HNX.out, HTL.out]
          simp [ByteArray.data_append, HXD.out]
        rw [← hfin] at hws
        have HBX := Lib.hid hB6
        clear hB5 hB6 hle hfin hhx hsz3 l4 d4
        go_wp2_with fail
        refine hws.mono ?_
        rintro e w7 ⟨v7, rfl, hB7, k7⟩
        have hK7 := hk4 _ _ _ _ HBX.out hK6 k7
        have HB7 := Lib.hid hB7
        clear hws k7 hB7
        go_wp2_with fail
        go_roundg g'
        case rel => exact ⟨n + 1, v7, st_next HN.out, by go_num, hK7, HB7.out⟩
        case measure => omega
    · obtain rfl : n = S.length := by omega
      obtain rfl : gk = 0 := by omega
      clear hn
      rw [List.take_length] at hBr
      have hst : S.flatMap M.tell = M.state := by rw [HS.out]; rfl
      rw [hst] at hBr
      have hbs := hBr.bld.is
      have hbl := hBr.bld.lt
      clear hst
      go_wp2_with fail
      refine (Tryd.Builder_String_any b b _ _ hbs (by omega)).mono ?_
      rintro e w4 ⟨rfl, k4⟩
      go_wp2_with fail
      go_ret
      have hKw : Kp [] w wr := (k1.trans k13).step hK (fun i hi hm => by
        rw [List.mem_singleton] at hm
        have := HB.out
        omega)
      exact ⟨rfl, hKw.down k4 (by have := HB.out; omega)⟩
end Go.Proofs.YtlomniffpjndfaaDoor

namespace Go.Proofs.YtlomniffpjndfaaDoor
open Go.RowKit Go.ChangeMaps Go.Maps Go.WideShapes Go.WideMaps Go.WideElems Go.MapKept Go.ChangeShapes Go.Sort

set_option maxHeartbeats 1000000 in
set_option maxRecDepth 20000 in
theorem clone_any (b : Nat) (es : Array MapEntry) (clock : Nat) (w : World) (hb : w.heap[b]? = some (.map es clock)) :
    Calls Tryd.prog 38 #[.map (some b)] w fun e w' => e = .returned (.map (some w.heap.size)) ∧ w' = w.alloc (.map es clock) := by
  have hq := fun w => run_eql_map_nil_sl (P := Tryd.prog) w 46 _ _ (some b) under_mKn
  go_enter Tryd.func38, Tryd.ntmps38
  go_wp2_with fail
  rw [run_callFunc_extern Tryd.func54 (by kernel_rfl) (by kernel_rfl) (by kernel_rfl) (e := Extern.MapsClone.clone) (by kernel_rfl), run_maps_clone_sl w 46 hb]
  simp only [Result.andThen]
  rw [Oper.upon_value]
  go_wp2_with fail
  rw [run_typeAssert_map_sl _ 46 20 _ _ _ under_mKn]
  simp only [Result.andThen]
  rw [Oper.upon_value]
  go_wp2_with fail
  go_ret
  exact ⟨rfl, rfl⟩
set_option maxHeartbeats 1000000 in
set_option maxRecDepth 20000 in
theorem mcopy {mb eb : Nat} {M : Mdl} (w : World) (h : MdAt mb eb w M) :
    Calls Tryd.prog 16 #[Md.p mb] w fun e w' => ∃ mb2 eb2, e = .returned (Md.p mb2) ∧ MdAt mb2 eb2 w' M ∧ Kp [] w w' ∧ w.heap.size ≤ mb2 ∧ w.heap.size ≤ eb2 := by
  have c0 : w.cell? ⟨mb, 0, none⟩ = some (.map (some eb)) := cell_of_cells (o := 0) h.top rfl
  obtain ⟨es, clock, hb, r⟩ := h.ents
  have hcl := clone_any eb es clock w hb
  go_enter Tryd.func16, Tryd.ntmps16
  go_wp2_with fail
  refine hcl.mono ?_
  rintro e w1 ⟨rfl, rfl⟩
  go_wp2_with fail
  go_ret
  have hbm := block_new (w.alloc (.map es clock)) (.cells #[.map (some w.heap.size)] 48)
  rw [World.size_alloc] at hbm
  have hbe := block_new w (.map es clock)
  have k1 : Kp [] w (w.alloc (.map es clock)) := (Kp.refl _ _).alloc _
  have k2 : Kp [] (w.alloc (.map es clock)) ((w.alloc (.map es clock)).alloc (.cells #[.map (some w.heap.size)] 48)) := (Kp.refl _ _).alloc _
  refine ⟨w.heap.size + 1, w.heap.size, rfl, ⟨hbm, ⟨es, clock, ?_, r⟩⟩, k1.trans k2, Nat.le_succ _, Nat.le_refl _⟩
  exact (k2.block _ (lt_of_block hbe) (by simp)).trans hbe
theorem mcopy_nil (w : World) : Calls Tryd.prog 16 #[.pointer none] w fun e w' => e = .returned (.pointer none) ∧ w' = w := by
  go_enter Tryd.func16, Tryd.ntmps16
  go_wp2_with fail
  go_ret
  exact ⟨rfl, rfl⟩
theorem mstate_nil (w : World) : Calls Tryd.prog 14 #[.pointer none] w fun e w' => e = .returned (.string E0) ∧ w' = w := by
  go_enter Tryd.func14, Tryd.ntmps14
  go_wp2_with fail
  go_ret
  exact ⟨rfl, rfl⟩
set_option maxHeartbeats 1000000 in
set_option maxRecDepth 20000 in
theorem mdo_nil (kind : Int) (k v : ByteArray) (w : World) : Calls Tryd.prog 12 #[.pointer none, ReqV kind k v] w fun e w' => e = .returned (RespV 1 E0 nilS) ∧ Kp [] w w' := by
  have hK := ((Kp.refl [] w).alloc (.cells #[.int .i64 kind, .string k, .string v] 32)).alloc (.cells #[.int .i64 1, .string ⟨#[]⟩, .slice none 0 0] 37)
  go_enter Tryd.func12, Tryd.ntmps12
  go_wp2_with fail
  have b := block_new (w.alloc (.cells #[.int .i64 kind, .string k, .string v] 32)) (.cells #[.int .i64 1, .string ⟨#[]⟩, .slice none 0 0] 37)
  rw [World.size_alloc] at b
  exact bodyPost_ret (ret3_mDo _ _ (w.heap.size + 1) (by kernel_rfl) (cell_of_cells b rfl) (cell_of_cells b rfl) (cell_of_cells b rfl)) rfl ⟨rfl, hK⟩
/-- which errors are silent -/
def silentB (e : Int) : Bool := decide (e = 2) || decide (e = 7) || decide (e = 8) || decide (e = 10)
set_option maxHeartbeats 1000000 in
set_option maxRecDepth 20000 in
theorem msilent (x : Int) (w : World) : Calls Tryd.prog 17 #[.int .i64 x] w fun e w' => e = .returned (.bool (silentB x)) ∧ Kp [] w w' := by
  have hK := Kp.refl [] w
  obtain ⟨R, hR⟩ : ∃ R, R = silentB x := ⟨_, rfl⟩
  rw [← hR]
  have HR := Lib.hid hR
  clear hR
  by_cases h2 : x = 2
  · subst h2
    go_enter Tryd.func17, Tryd.ntmps17
    go_wp2_with fail
    go_ret
    exact ⟨by rw [HR.out]; rfl, hK⟩
  by_cases h7 : x = 7
  · subst h7
    go_enter Tryd.func17, Tryd.ntmps17
    go_wp2_with fail
    go_ret
    exact ⟨by rw [HR.out]; rfl, hK⟩
  by_cases h8 : x = 8
  · subst h8
    go_enter Tryd.func17, Tryd.ntmps17
    go_wp2_with fail
    go_ret
    exact ⟨by rw [HR.out]; rfl, hK⟩
  by_cases h10 : x = 10
  · subst h10
    go_enter Tryd.func17, Tryd.ntmps17
    go_wp2_with fail
    go_ret
    exact ⟨by rw [HR.out]; rfl, hK⟩
  have e2 : (x == 2) = false := by simpa using h2
  have e7 : (x == 7) = false := by simpa using h7
  have e8 : (x == 8) = false := by simpa using h8
  have e10 : (x == 10) = false := by simpa using h10
  have hf : silentB x = false := by simp [silentB, h2, h7, h8, h10]
  have HF := Lib.hid hf
  clear h2 h7 h8 h10 hf
  go_enter Tryd.func17, Tryd.ntmps17
  go_wp2_with fail
  go_ret
  exact ⟨by rw [HR.out, HF.out]; rfl, hK⟩
set_option maxHeartbeats 1000000 in
set_option maxRecDepth 20000 in
theorem rsilent (x : Int) (w : World) : Calls Tryd.prog 18 #[.int .i64 x] w fun e w' => e = .returned (.bool (silentB x)) ∧ Kp [] w w' := by
  have hK := Kp.refl [] w
  obtain ⟨R, hR⟩ : ∃ R, R = silentB x := ⟨_, rfl⟩
  rw [← hR]
  have HR := Lib.hid hR
  clear hR
  by_cases h2 : x = 2
  · subst h2
    go_enter Tryd.func18, Tryd.ntmps18
    go_wp2_with fail
    go_ret
    exact ⟨by rw [HR.out]; rfl, hK⟩
  by_cases h7 : x = 7
  · subst h7
    go_enter Tryd.func18, Tryd.ntmps18
    go_wp2_with fail
    go_ret
    exact ⟨by rw [HR.out]; rfl, hK⟩
  by_cases h8 : x = 8
  · subst h8
    go_enter Tryd.func18, Tryd.ntmps18
    go_wp2_with fail
    go_ret
    exact ⟨by rw [HR.out]; rfl, hK⟩
  by_cases h10 : x = 10
  · subst h10
    go_enter Tryd.func18, Tryd.ntmps18
    go_wp2_with fail
    go_ret
    exact ⟨by rw [HR.out]; rfl, hK⟩
  have e2 : (x == 2) = false := by simpa using h2
  have e7 : (x == 7) = false := by simpa using h7
  have e8 : (x == 8) = false := by simpa using h8
  have e10 : (x == 10) = false := by simpa using h10
  have hf : silentB x = false := by simp [silentB, h2, h7, h8, h10]
  have HF := Lib.hid hf
  clear h2 h7 h8 h10 hf
  go_enter Tryd.func18, Tryd.ntmps18
  go_wp2_with fail
  go_ret
  exact ⟨by rw [HR.out, HF.out]; rfl, hK⟩
def smallQ (k v : ByteArray) : Bool := decide ((k.size : Int) ≤ 100) && decide ((v.size : Int) ≤ 500)
set_option maxHeartbeats 1000000 in
set_option maxRecDepth 20000 in
theorem rsmall16 (kind : Int) (k v : ByteArray) (w : World) : Calls Tryd.prog 10 #[ReqV kind k v] w fun e w' => e = .returned (.bool (smallQ k v)) ∧ Kp [] w w' := by
  have hK := (Kp.refl [] w).alloc (.cells #[.int .i64 kind, .string k, .string v] 32)
  by_cases h1 : (k.size : Int) ≤ 100
  · by_cases h2 : (v.size : Int) ≤ 500
    · have e : smallQ k v = true := by simp only [smallQ, decide_eq_true h1, decide_eq_true h2]; rfl
      rw [e]; clear e
      go_enter Tryd.func10, Tryd.ntmps10
      go_wp2_with fail
      go_ret
      exact ⟨rfl, hK⟩
    · have e : smallQ k v = false := by simp only [smallQ, decide_eq_false h2, Bool.and_false]
      rw [e]; clear e
      go_enter Tryd.func10, Tryd.ntmps10
      go_wp2_with fail
      go_ret
      exact ⟨rfl, hK⟩
  · have e : smallQ k v = false := by simp only [smallQ, decide_eq_false h1, Bool.false_and]
    rw [e]; clear e
    go_enter Tryd.func10, Tryd.ntmps10
    go_wp2_with fail
    go_ret
    exact ⟨rfl, hK⟩
end Go.Proofs.YtlomniffpjndfaaDoor
