/-
  Two digits of a text: strconv.ParseUint at base 16, 8 bits.
-/
import Derived.Test.YtmihnakapnoefaaGreatDoorScrA
import Derived.Test.YtmihnakapnoefaaGreatDoorReqN
import Derived.Test.YtmihnakapnoefaaGreatDoorRowL
namespace Go.Proofs.YtmihnakapnoefaaGreatDoor
open Go.RowKit Go.WideShapes

/-- what the world holds all along: its shape, the table of powers, the two errors -/
structure Env (w : World) : Prop where
  sh : w.ShapedOpen Tryz.prog
  tab : Lib.TabIs Tryz.prog w "internal/strconv.uint64pow10" .u64 Lib.pow10Tab
  e1 : ∃ te pe, w.cell? ⟨1, 0, none⟩ = some (.iface te pe)
  e2 : ∃ te pe, w.cell? ⟨2, 0, none⟩ = some (.iface te pe)
theorem Env.keep {w w' : World} (h : Env w) (k : Kp [] w w') : Env w' := by
  obtain ⟨sh, tab, ⟨t1, p1, h1⟩, t2, p2, h2⟩ := h
  exact ⟨shaped_keep sh k, tab.keep k, ⟨t1, p1, (k.cell (lt_of_cell h1) (by simp)).trans h1⟩, ⟨t2, p2, (k.cell (lt_of_cell h2) (by simp)).trans h2⟩⟩
def lowB (b : UInt8) : UInt8 := b ||| 32
theorem low_bits : ∀ x : Fin 256, bits .or .u8 (x.val : Int) 32 = ((lowB (UInt8.ofNat x.val)).toNat : Int) := by decide +kernel
/-- one digit of sixteen, of either case -/
def puV (b : UInt8) : Option Nat :=
  if 48 ≤ b.toNat ∧ b.toNat ≤ 57 then some (b.toNat - 48) else if 97 ≤ (lowB b).toNat ∧ (lowB b).toNat ≤ 102 then some ((lowB b).toNat - 87) else none
def puStep (o : Option Nat) (b : UInt8) : Option Nat := match o, puV b with
  | some a, some d => some (16 * a + d)
  | _, _ => none
def puL (l : List UInt8) : Option Nat := l.foldl puStep (some 0)
theorem puL_snoc (l : List UInt8) (b : UInt8) : puL (l ++ [b]) = puStep (puL l) b := by unfold puL; rw [List.foldl_append]; rfl
theorem puV_lt {b : UInt8} {d : Nat} (h : puV b = some d) : d < 16 := by
  unfold puV at h
  split at h
  · cases h; omega
  · split at h
    · cases h; omega
    · cases h
theorem puFold_none : ∀ l : List UInt8, l.foldl puStep none = none
  | [] => rfl
  | _ :: l => puFold_none l
theorem puL_none {l : List UInt8} {n : Nat} (h : puL (l.take n) = none) : puL l = none := by
  have : puL (l.take n ++ l.drop n) = none := by
    unfold puL at h ⊢
    rw [List.foldl_append, h, puFold_none]
  rwa [List.take_append_drop] at this
set_option maxRecDepth 20000 in
theorem lower_any (b : UInt8) (w : World) : Calls Tryz.prog 94 #[BV b] w fun e w' => e = .returned (BV (lowB b)) ∧ w' = w := by
  have hb := low_bits ⟨b.toNat, b.toNat_lt⟩
  simp only [ofNat_toNat8] at hb
  go_enter Tryz.func94, Tryz.ntmps94
  go_wp2_with fail
  go_ret
  exact ⟨rfl, rfl⟩
theorem puV_dig {b : UInt8} (h0 : 48 ≤ b.toNat) (h1 : b.toNat ≤ 57) : puV b = some (b.toNat - 48) := by unfold puV; rw [if_pos ⟨h0, h1⟩]
theorem puL_lt : ∀ (n : Nat) (l : List UInt8), l.length = n → ∀ {a : Nat}, puL l = some a → a < 16 ^ n
  | 0, l, hl, a, h => by
    obtain rfl : l = [] := List.eq_nil_of_length_eq_zero hl
    cases h; decide
  | n + 1, l, hl, a, h => by
    obtain ⟨l', b, rfl⟩ : ∃ l' b, l = l' ++ [b] := ⟨l.dropLast, l.getLast (by intro e; rw [e] at hl; cases hl), (List.dropLast_concat_getLast _).symm⟩
    rw [puL_snoc] at h
    unfold puStep at h
    split at h
    · rename_i a' d h1 h2
      cases h
      have := puL_lt n l' (by simpa using hl) h1
      have hd := puV_lt h2
      rw [Nat.pow_succ]; omega
    · cases h
def puRes (l : List UInt8) : Value := match puL l with
  | some u => .tuple #[.int .u64 u, .nilIface]
  | none => .tuple #[.int .u64 0, .iface 115 (.int .i64 2)]
set_option maxHeartbeats 4000000 in
set_option maxRecDepth 100000 in
theorem ipu16 (t : ByteArray) (ht : t.size = 2) (w : World) :
    Calls Tryz.prog 77 #[.string t, .int .i64 16, .int .i64 8] w fun e w' => e = .returned (puRes t.data.toList) ∧ Kp [] w w' := by
  have hemp : t.toList.isEmpty = false := by
    rw [isEmpty_toList]; simp [ht]
  obtain ⟨W1, hW1⟩ : ∃ W1, W1 = (w.drew.alloc (.cells (bytesRow t (grownCap w t.size 0 5)) 5 ((bytesRow t (grownCap w t.size 0 5)).size, (bytesRow t (grownCap w t.size 0 5)).size + 1))) := ⟨_, rfl⟩
  have k1 : Kp [] w W1 := by rw [hW1]; exact ((Kp.refl _ _).drew).alloc _
  have hcell : ∀ (i : Nat) (h : i < t.size), W1.cell? ⟨w.heap.size, i, none⟩ = some (BV t[i]) := by
    intro i h
    rw [hW1, show w.heap.size = w.drew.heap.size from rfl, World.cell?_alloc_mark]
    exact bytesRow_at t _ i h
  have hC := Lib.hid hcell
  obtain ⟨R, hR⟩ : ∃ R, R = puRes t.data.toList := ⟨_, rfl⟩
  rw [← hR]
  have HR := Lib.hid hR
  clear hR
  have HT := Lib.hid ht
  clear hcell
  go_enter Tryz.func77, Tryz.ntmps77
  go_wp2_with fail
  rw [run_bytes_of_string _ _ _ _ _ Tryz.underlying9 Tryz.underlying79 Tryz.underlying5]
  rw [← hW1]
  generalize grownCap w t.size 0 5 = cap
  clear hW1
  go_wp2_with fail
  go_loopg [12, 13, 101] t.size (fun g vu vn vi wr => ∃ (n acc : Nat) (a : Int), n + g = t.size ∧ Hid (a = (acc : Int)) ∧ vu = .bool false ∧ vn = .int .u64 a ∧ vi = .int .i64 n ∧ Kp [] W1 wr ∧ puL (t.data.toList.take n) = some acc)
  case atStart => exact ⟨0, 0, 0, by omega, rfl, rfl, rfl, rfl, Kp.refl _ _, rfl⟩
  case round =>
    obtain ⟨n, acc, a, hn, HA, rfl, rfl, rfl, hKr, hacc⟩ := hrel
    have hK := k1.trans hKr
    have HACC := Lib.hid hacc
    have HN := Lib.hid hn
    by_cases hlt : n < t.size
    · obtain ⟨g', rfl⟩ : ∃ g', gk = g' + 1 := ⟨gk - 1, by omega⟩
      have hlt2 : n < 2 := by have := HT.out; omega
      have haccn := puL_lt n _ (by rw [List.length_take, len_data]; omega) hacc
      have hacc16 : acc < 16 := by
        match n, hlt2, haccn with
        | 0, _, h => omega
        | 1, _, h => simpa using h
      have a0 : 0 ≤ a := by have := HA.out; omega
      have a1 : a < 16 := by have := HA.out; omega
      have hltI : (n : Int) < (t.size : Int) := by omega
      obtain ⟨c, hc⟩ : ∃ c, c = t[n] := ⟨_, rfl⟩
      have h1 := hC.out n hlt
      have d1 := (hKr.cell (lt_of_cell h1) (by simp)).trans h1
      rw [← hc] at d1
      have htk : t.data.toList.take (n + 1) = t.data.toList.take n ++ [c] := by
        rw [List.take_add_one, List.getElem?_eq_getElem (by simpa using hlt), get_list t n hlt, hc]; rfl
      have HTK := Lib.hid htk
      have hc256 := c.toNat_lt
      clear hn hacc haccn hc h1 htk hlt2 hacc16
      by_cases hdig : 48 ≤ c.toNat ∧ c.toNat ≤ 57
      · obtain ⟨d, hd⟩ : ∃ d : Int, d = (c.toNat : Int) - 48 := ⟨_, rfl⟩
        have hp : puV c = some d.toNat := by rw [puV_dig hdig.1 hdig.2, hd]; congr 1; omega
        have HP := Lib.hid hp
        have i0 : (48 : Int) ≤ (c.toNat : Int) := by omega
        have i1 : (c.toNat : Int) ≤ 57 := by omega
        have i2 : (c.toNat : Int) - 48 = d := by omega
        have i3 : d < 10 := by omega
        have i4 : (0 : Int) ≤ d := by omega
        have i5 : IntKind.u8.wrap ((c.toNat : Int) - 48) = d := by rw [i2]; exact u8id _ i4 (by omega)
        have HD := Lib.hid hd
        clear hd hp hdig
        go_wp2_with fail
        go_roundg g'
        case rel =>
          have hn := HN.out
          refine ⟨n + 1, 16 * acc + d.toNat, a * 16 + d, by omega, ?_, rfl, rfl, by go_num, hKr, ?_⟩
          · show a * 16 + d = ((16 * acc + d.toNat : Nat) : Int)
            have := HA.out
            omega
          · rw [HTK.out, puL_snoc, HACC.out]; unfold puStep; rw [HP.out]
        case measure => omega
      · by_cases h48 : c.toNat < 48
        · have i0 : ¬ (48 : Int) ≤ (c.toNat : Int) := by omega
          have HDIG := Lib.hid hdig
          clear hdig h48
          obtain ⟨l, hl⟩ : ∃ l, l = lowB c := ⟨_, rfl⟩
          have HL := Lib.hid hl
          have hl256 := l.toNat_lt
          have hbad : ¬ (97 ≤ l.toNat ∧ l.toNat ≤ 102) → puV c = none := fun h => by unfold puV; rw [if_neg HDIG.out, ← HL.out, if_neg h]
          clear hl
          go_wp2_with fail
          refine (lower_any c _).mono ?_
          rintro e w2 ⟨rfl, e2⟩
          rw [e2, ← HL.out]
          clear e2 w2
          by_cases l97 : 97 ≤ l.toNat
          · have j0 : (97 : Int) ≤ (l.toNat : Int) := by omega
            go_wp2_with fail
            refine (lower_any c _).mono ?_
            rintro e w2 ⟨rfl, e2⟩
            rw [e2, ← HL.out]
            clear e2 w2
            by_cases l122 : l.toNat ≤ 122
            · have j1 : (l.toNat : Int) ≤ 122 := by omega
              obtain ⟨d, hd⟩ : ∃ d : Int, d = (l.toNat : Int) - 87 := ⟨_, rfl⟩
              have j2 : IntKind.u8.wrap ((l.toNat : Int) - 97) = (l.toNat : Int) - 97 := u8id _ (by omega) (by omega)
              have j3 : IntKind.u8.wrap ((l.toNat : Int) - 97 + 10) = d := by rw [hd, show (l.toNat : Int) - 97 + 10 = (l.toNat : Int) - 87 from by omega]; exact u8id _ (by omega) (by omega)
              have j5 : (l.toNat : Int) - 97 + 10 = d := by omega
              have j4 : (0 : Int) ≤ d := by omega
              by_cases l102 : l.toNat ≤ 102
              · have hp : puV c = some d.toNat := by
                  unfold puV; rw [if_neg HDIG.out, ← HL.out, if_pos ⟨l97, l102⟩, hd]; congr 1; omega
                have HP := Lib.hid hp
                have i3 : d < 16 := by omega
                clear hbad hp hd
                go_wp2_with fail
                refine (lower_any c _).mono ?_
                rintro e w2 ⟨rfl, e2⟩
                rw [e2, ← HL.out]
                clear e2 w2
                go_wp2_with fail
                go_roundg g'
                case rel =>
                  have hn := HN.out
                  refine ⟨n + 1, 16 * acc + d.toNat, a * 16 + d, by omega, ?_, rfl, rfl, by go_num, hKr, ?_⟩
                  · show a * 16 + d = ((16 * acc + d.toNat : Nat) : Int)
                    have := HA.out
                    omega
                  · rw [HTK.out, puL_snoc, HACC.out]; unfold puStep; rw [HP.out]
                case measure => omega
              · have HBAD := Lib.hid (hbad (by omega))
                have i3 : ¬ d < 16 := by omega
                have i6 : (16 : Int) ≤ d := by omega
                clear hbad hd
                go_wp2_with fail
                refine (lower_any c _).mono ?_
                rintro e w2 ⟨rfl, e2⟩
                rw [e2, ← HL.out]
                clear e2 w2
                go_wp2_with fail
                have hnone : puL t.data.toList = none := puL_none (n := n + 1) (by rw [HTK.out, puL_snoc, HACC.out]; unfold puStep; rw [HBAD.out])
                have HNONE := Lib.hid hnone
                clear hnone
                go_ret2
                exact ⟨by rw [HR.out]; unfold puRes; rw [HNONE.out]; rfl, hK⟩
            · have HBAD := Lib.hid (hbad (by omega))
              have j1 : ¬ (l.toNat : Int) ≤ 122 := by omega
              clear hbad
              go_wp2_with fail
              have hnone : puL t.data.toList = none := puL_none (n := n + 1) (by rw [HTK.out, puL_snoc, HACC.out]; unfold puStep; rw [HBAD.out])
              have HNONE := Lib.hid hnone
              clear hnone
              go_ret2
              exact ⟨by rw [HR.out]; unfold puRes; rw [HNONE.out]; rfl, hK⟩
          · have HBAD := Lib.hid (hbad (by omega))
            have j0 : ¬ (97 : Int) ≤ (l.toNat : Int) := by omega
            clear hbad
            go_wp2_with fail
            have hnone : puL t.data.toList = none := puL_none (n := n + 1) (by rw [HTK.out, puL_snoc, HACC.out]; unfold puStep; rw [HBAD.out])
            have HNONE := Lib.hid hnone
            clear hnone
            go_ret2
            exact ⟨by rw [HR.out]; unfold puRes; rw [HNONE.out]; rfl, hK⟩
        · have i0 : (48 : Int) ≤ (c.toNat : Int) := by omega
          have i1 : ¬ (c.toNat : Int) ≤ 57 := by omega
          have HDIG := Lib.hid hdig
          clear hdig h48
          by_cases u95 : c = 95
          · subst u95
            have HBAD := Lib.hid (show puV 95 = none by decide)
            clear i0 i1
            go_wp2_with fail
            refine (lower_any 95 _).mono ?_
            rintro e w2 ⟨rfl, e2⟩
            rw [e2, show BV (lowB 95) = .int .u8 127 from rfl]
            clear e2 w2
            go_wp2_with fail
            refine (lower_any 95 _).mono ?_
            rintro e w2 ⟨rfl, e2⟩
            rw [e2, show BV (lowB 95) = .int .u8 127 from rfl]
            clear e2 w2
            go_wp2_with fail
            have hnone : puL t.data.toList = none := puL_none (n := n + 1) (by rw [HTK.out, puL_snoc, HACC.out]; unfold puStep; rw [HBAD.out])
            have HNONE := Lib.hid hnone
            clear hnone
            go_ret2
            exact ⟨by rw [HR.out]; unfold puRes; rw [HNONE.out]; rfl, hK⟩
          · have i7 : ¬ (c.toNat : Int) = 95 := fun e => u95 (by rw [← ofNat_toNat8 c, show c.toNat = 95 from by omega]; rfl)
            have i8 := int_ne i7
            clear u95
            obtain ⟨l, hl⟩ : ∃ l, l = lowB c := ⟨_, rfl⟩
            have HL := Lib.hid hl
            have hl256 := l.toNat_lt
            have hbad : ¬ (97 ≤ l.toNat ∧ l.toNat ≤ 102) → puV c = none := fun h => by unfold puV; rw [if_neg HDIG.out, ← HL.out, if_neg h]
            clear hl
            go_wp2_with fail
            refine (lower_any c _).mono ?_
            rintro e w2 ⟨rfl, e2⟩
            rw [e2, ← HL.out]
            clear e2 w2
            by_cases l97 : 97 ≤ l.toNat
            · have j0 : (97 : Int) ≤ (l.toNat : Int) := by omega
              go_wp2_with fail
              refine (lower_any c _).mono ?_
              rintro e w2 ⟨rfl, e2⟩
              rw [e2, ← HL.out]
              clear e2 w2
              by_cases l122 : l.toNat ≤ 122
              · have j1 : (l.toNat : Int) ≤ 122 := by omega
                obtain ⟨d, hd⟩ : ∃ d : Int, d = (l.toNat : Int) - 87 := ⟨_, rfl⟩
                have j2 : IntKind.u8.wrap ((l.toNat : Int) - 97) = (l.toNat : Int) - 97 := u8id _ (by omega) (by omega)
                have j3 : IntKind.u8.wrap ((l.toNat : Int) - 97 + 10) = d := by rw [hd, show (l.toNat : Int) - 97 + 10 = (l.toNat : Int) - 87 from by omega]; exact u8id _ (by omega) (by omega)
                have j5 : (l.toNat : Int) - 97 + 10 = d := by omega
                have j4 : (0 : Int) ≤ d := by omega
                by_cases l102 : l.toNat ≤ 102
                · have hp : puV c = some d.toNat := by
                    unfold puV; rw [if_neg HDIG.out, ← HL.out, if_pos ⟨l97, l102⟩, hd]; congr 1; omega
                  have HP := Lib.hid hp
                  have i3 : d < 16 := by omega
                  clear hbad hp hd
                  go_wp2_with fail
                  refine (lower_any c _).mono ?_
                  rintro e w2 ⟨rfl, e2⟩
                  rw [e2, ← HL.out]
                  clear e2 w2
                  go_wp2_with fail
                  go_roundg g'
                  case rel =>
                    have hn := HN.out
                    refine ⟨n + 1, 16 * acc + d.toNat, a * 16 + d, by omega, ?_, rfl, rfl, by go_num, hKr, ?_⟩
                    · show a * 16 + d = ((16 * acc + d.toNat : Nat) : Int)
                      have := HA.out
                      omega
                    · rw [HTK.out, puL_snoc, HACC.out]; unfold puStep; rw [HP.out]
                  case measure => omega
                · have HBAD := Lib.hid (hbad (by omega))
                  have i3 : ¬ d < 16 := by omega
                  have i6 : (16 : Int) ≤ d := by omega
                  clear hbad hd
                  go_wp2_with fail
                  refine (lower_any c _).mono ?_
                  rintro e w2 ⟨rfl, e2⟩
                  rw [e2, ← HL.out]
                  clear e2 w2
                  go_wp2_with fail
                  have hnone : puL t.data.toList = none := puL_none (n := n + 1) (by rw [HTK.out, puL_snoc, HACC.out]; unfold puStep; rw [HBAD.out])
                  have HNONE := Lib.hid hnone
                  clear hnone
                  go_ret2
                  exact ⟨by rw [HR.out]; unfold puRes; rw [HNONE.out]; rfl, hK⟩
              · have HBAD := Lib.hid (hbad (by omega))
                have j1 : ¬ (l.toNat : Int) ≤ 122 := by omega
                clear hbad
                go_wp2_with fail
                have hnone : puL t.data.toList = none := puL_none (n := n + 1) (by rw [HTK.out, puL_snoc, HACC.out]; unfold puStep; rw [HBAD.out])
                have HNONE := Lib.hid hnone
                clear hnone
                go_ret2
                exact ⟨by rw [HR.out]; unfold puRes; rw [HNONE.out]; rfl, hK⟩
            · have HBAD := Lib.hid (hbad (by omega))
              have j0 : ¬ (97 : Int) ≤ (l.toNat : Int) := by omega
              clear hbad
              go_wp2_with fail
              have hnone : puL t.data.toList = none := puL_none (n := n + 1) (by rw [HTK.out, puL_snoc, HACC.out]; unfold puStep; rw [HBAD.out])
              have HNONE := Lib.hid hnone
              clear hnone
              go_ret2
              exact ⟨by rw [HR.out]; unfold puRes; rw [HNONE.out]; rfl, hK⟩
    · obtain rfl : n = t.size := by omega
      obtain rfl : gk = 0 := by omega
      have hfin : puL t.data.toList = some acc := by
        have := HACC.out
        rwa [List.take_of_length_le (by simp)] at this
      have HF := Lib.hid hfin
      clear hn hacc hfin
      go_wp2_with fail
      go_ret2
      exact ⟨by rw [HR.out]; unfold puRes; rw [HF.out]; show _ = Ending.returned (.tuple #[.int .u64 (acc : Int), .nilIface]); rw [← HA.out]; rfl, hK⟩
end Go.Proofs.YtmihnakapnoefaaGreatDoor
