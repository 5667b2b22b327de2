/-
  SpaceOnce: what is taken was not taken, and is then; it is given once. For every script.
  Conditions: none beyond the row's own.
-/
import Derived.Test.YtmegcmjklealbaaSpcX
namespace Go.Proofs.Ytmegcmjklealbaa
open Go.ChangeShapes Go.WideShapes Go.ChangeAt Go.RowKit Go.WideElems

theorem leastFrom_spec {f : Int → Int → Bool} {d : Int} : ∀ (n k m : Nat), leastFrom f d n k = some m → k ≤ m ∧ m < k + n ∧ f d m = false
  | 0, k, m, h => by cases h
  | n + 1, k, m, h => by
    simp only [leastFrom] at h
    by_cases hc : f d k = true
    · rw [if_pos hc] at h
      have := leastFrom_spec n (k + 1) m h
      exact ⟨by omega, by omega, this.2.2⟩
    · rw [if_neg hc] at h
      simp only [Option.some.injEq] at h
      subst h
      exact ⟨by omega, by omega, by simpa using hc⟩
/-- what was taken is taken -/
structure Got (f : Int → Int → Bool) (xs : List (Int × Int)) : Prop where
  all : ∀ p ∈ xs, IsB p.1 p.2 = true ∧ f p.1 p.2 = true
  nodup : xs.Nodup
theorem got_take {f : Int → Int → Bool} {xs : List (Int × Int)} (h : Got f xs) (d : Int) :
    (∃ r, takeR f d = (0, r) ∧ (r != 0) = true ∧ Got (takeF f d) xs) ∨ (∃ k, takeR f d = (k, 0) ∧ IsB d k = true ∧ takeF f d d k = true ∧ (d, k) ∉ xs ∧ Got (takeF f d) (xs ++ [(d, k)])) := by
  unfold takeR takeF
  cases hd : DiskB d with
  | false => exact .inl ⟨1, rfl, rfl, h⟩
  | true =>
    simp only [if_true]
    cases hl : leastFrom f d 48 0 with
    | none => exact .inl ⟨7, rfl, rfl, h⟩
    | some k =>
      obtain ⟨-, h2, h3⟩ := leastFrom_spec _ _ _ hl
      have hb : IsB d k = true := IsB_of hd (by omega)
      have hn : (d, (k : Int)) ∉ xs := fun hm => by
        have := (h.all _ hm).2
        simp only [h3, Bool.false_eq_true] at this
      refine .inr ⟨k, rfl, hb, by simp [upd], hn, fun p hp => ?_, ?_⟩
      · rw [List.mem_append, List.mem_singleton] at hp
        rcases hp with hp | rfl
        · refine ⟨(h.all p hp).1, ?_⟩
          simp only [upd]
          split
          · rfl
          · exact (h.all p hp).2
        · exact ⟨hb, by simp [upd]⟩
      · rw [List.nodup_append]
        refine ⟨h.nodup, by simp, fun a ha b hb2 => ?_⟩
        rw [List.mem_singleton] at hb2
        subst hb2
        intro e
        subst e
        exact hn ha

theorem script_of {W : World} {v : Value} (h : Rd Try.prog W 22 v.cells.toList) {av : Option Addr} {l c : Nat} (hv : v = .slice av l c) :
    ∃ xs : List OpV, SliceAt W.heap.size W v 4 xs.length (xs.flatMap opCells) ∧ ∀ o ∈ xs, SliceAt W.heap.size W o.2 1 o.1.ds.length (o.1.ds.map (Value.int .i64)) := by
  subst hv
  have h4 : Try.prog.cellsOf 34 = 4 := by kernel_rfl
  obtain ⟨xs, v, e, hs, hq⟩ := rd_list Try.underlying22 h opCells 4 h4 (by decide) opCells_len (fun o => SliceAt W.heap.size W o.2 1 o.1.ds.length (o.1.ds.map (Value.int .i64))) (fun es he => by
    obtain ⟨o, e, ho⟩ := op_of he
    exact ⟨o, e, ho⟩)
  have e1 : Value.slice av l c = v := by
    have : [Value.slice av l c] = [v] := e
    simpa using this
  subst e1
  exact ⟨xs, hs, hq⟩

set_option maxHeartbeats 2000000 in
theorem once_walk (v : Value) (os : List OpV) (w : World) (hv : SliceAt w.heap.size w v 4 os.length (os.flatMap opCells)) :
    Calls Try.prog 4 #[v] w fun e w' => e = .returned (.bool true) ∧ Kp [] w w' := by
  obtain ⟨av, cv, rfl⟩ := slice_ex hv
  by_cases hlen : 60 < os.length
  · have hlenI : (60 : Int) < (os.length : Int) := by omega
    go_enter Try.func4, Try.ntmps4
    go_wp2_with fail
    refine (live_true _).mono ?_
    rintro e w1 ⟨rfl, h1⟩
    go_wp2_with fail
    go_ret
    exact ⟨rfl, h1⟩
  · have hlenI : (os.length : Int) ≤ 60 := by omega
    go_enter Try.func4, Try.ntmps4
    go_wp2_with fail
    refine (new_any _).mono ?_
    rintro e w1 ⟨rfl, k1, s1, z1⟩
    obtain ⟨b, hb⟩ : ∃ b, b = w.heap.size := ⟨_, rfl⟩
    rw [← hb] at s1 ⊢
    have HB := Lib.hid hb
    have hbk : b + 1 ≤ w1.heap.size := by have := s1.lt; omega
    clear hb z1
    go_wp2_with fail
    go_loopg [4, 5] os.length (fun g u i wr => ∃ (n : Nat) (f : Int → Int → Bool) (xs : List (Int × Int)), n + g = os.length ∧ i = .int .i64 n ∧ SpaceAt wr b f ∧ wr.ownsRow (b + 1) 31 2 u xs.length (Pairs xs) ∧ Got f xs ∧ xs.length ≤ n ∧ Kp [] w wr ∧ b + 1 ≤ wr.heap.size)
    case atStart => exact ⟨0, _, [], by omega, rfl, s1, World.ownsRow_nil _ _ _ _, ⟨by simp, by simp⟩, by simp, k1, hbk⟩
    case round =>
      clear s1 k1 hbk
      obtain ⟨n, f, xs, hn, rfl, hs, hown, hgot, hxl, hK, hsz⟩ := hrel
      have HN := Lib.hid hn
      have HG := Lib.hid hgot
      clear hgot
      obtain ⟨au, cu, rfl⟩ := ownsRow_ex hown
      by_cases hlt : n < os.length
      · obtain ⟨g', rfl⟩ : ∃ g', gk = g' + 1 := ⟨gk - 1, by omega⟩
        clear hn
        have hltI : (n : Int) < (os.length : Int) := by omega
        obtain ⟨gv, ov, c, hv', e0, e1, e2, e3⟩ := script_at hv n hlt
        simp only [Value.slice.injEq] at hv'
        obtain ⟨rfl, -, rfl⟩ := hv'
        have d1 := (hK.cell (lt_of_cell e1) (by simp)).trans e1
        obtain ⟨d, hd⟩ : ∃ d, d = os[n].1.d := ⟨_, rfl⟩
        rw [← hd] at d1
        clear e0 e1 e2 e3 hd
        go_wp2_with fail
        refine (take_any b f d _ hs).mono ?_
        rintro e w2 ⟨rfl, k2, s2⟩
        have hK2 : Kp [] w w2 := hK.step k2 (fun i hi hm => by
          have := HB.out
          simp only [List.mem_singleton] at hm
          omega)
        have hown2 := ownsRow_keep hown k2 (fun i hi => by simp; omega)
        have hsz2 := Nat.le_trans hsz k2.size
        clear hown k2 hs hK d1
        rcases got_take HG.out d with ⟨r, q1, q2, q3⟩ | ⟨k, q1, q2, q3, q4, q5⟩
        · rw [q1]
          have HQ := Lib.hid q3
          clear q1 q3
          go_wp2_with fail
          go_roundg g'
          case rel =>
            have hn := HN.out
            exact ⟨n + 1, _, xs, by omega, by go_num, s2, hown2, HQ.out, by omega, hK2, hsz2⟩
          case measure => omega
        · rw [q1]
          have Q2 := Lib.hid q2
          have Q3 := Lib.hid q3
          have Q4 := Lib.hid q4
          have Q5 := Lib.hid q5
          clear q1 q2 q3 q4 q5
          generalize takeF f d = f2 at *
          obtain ⟨w0, hw0⟩ : ∃ w0, w0 = (w2.alloc (Obj.cells #[Value.int IntKind.i64 d, Value.int IntKind.i64 k] 31)) := ⟨_, rfl⟩
          have kw0 : Kp [] w2 w0 := hw0 ▸ (Kp.refl _ _).alloc _
          have c2 := Kp.cellAt (X := []) (w0 := w0) (p := ⟨w2.heap.size, 0, none⟩) (v := .int .i64 d) (by rw [hw0]; exact cell_of_cells (block_new _ _) rfl) (by simp)
          have c3 := Kp.cellAt (X := []) (w0 := w0) (p := ⟨w2.heap.size, 1, none⟩) (v := .int .i64 k) (by rw [hw0]; exact cell_of_cells (block_new _ _) rfl) (by simp)
          have Hw0 := Lib.hid hw0
          clear hw0
          have hown0 := ownsRow_keep hown2 kw0 (fun _ _ => by simp)
          have s0 := s2.keep kw0 (by simp)
          have hK0 := hK2.trans kw0
          have hsz0 := Nat.le_trans hsz2 kw0.size
          have hw2 : w2.heap.size + 1 = w0.heap.size := by rw [Hw0.out]; simp
          have hge := own_block_ge hown0
          have hlt2 := own_lt hown2
          have HE := Lib.hid hge
          have HL := Lib.hid hlt2
          clear hown2 s2 hK2 hge hlt2
          go_wp2_with fail
          rw [← Hw0.out]
          go_loopg [10] xs.length (fun g i wx => ∃ m : Nat, m + g = xs.length ∧ i = .int .i64 m ∧ Kp [] w0 wx)
          case atStart => exact ⟨0, by omega, rfl, Kp.refl _ _⟩
          case round =>
            obtain ⟨m, hm, rfl, hK⟩ := hrel
            have HM := Lib.hid hm
            by_cases hmx : m < xs.length
            · obtain ⟨g2, rfl⟩ : ∃ g2, gk = g2 + 1 := ⟨gk - 1, by omega⟩
              clear hm
              have hmI : (m : Int) < (xs.length : Int) := by omega
              obtain ⟨g, c, hv2, e1, e2⟩ := own_at hown0 m hmx
              simp only [Value.slice.injEq] at hv2
              obtain ⟨rfl, -, rfl⟩ := hv2
              have d1 := Kp.cellAt (X := []) e1 (by simp)
              have d2 := Kp.cellAt (X := []) e2 (by simp)
              clear e1 e2
              go_wp2_with fail
              refine wpB_begin 999 (Kp [] w0) (by kernel_rfl) (by first | exact hK.drew | exact Kp.drew (Kp.refl _ _)) (fun hHeld => ?_)
              refine wpB_take 0 _ ?_ rfl (by kernel_rfl) (fun _ _ _ h => h) rfl hHeld ?_ ?_
              rotate_left
              · (intro W hW; go_simp; try with_reducible rfl)
              try simp only [Act.put, List.setIfInBounds_toArray, List.set_cons_zero, List.set_cons_succ]
              refine wpB_take 1 _ ?_ rfl (by kernel_rfl) (fun _ _ _ h => h) rfl hHeld ?_ ?_
              rotate_left
              · (intro W hW; go_simp; try with_reducible rfl)
              try simp only [Act.put, List.setIfInBounds_toArray, List.set_cons_zero, List.set_cons_succ]
              refine wpB_take 2 _ ?_ rfl (by kernel_rfl) (fun _ _ _ h => h) rfl hHeld ?_ ?_
              rotate_left
              · (intro W hW; go_simp; try with_reducible rfl)
              try simp only [Act.put, List.setIfInBounds_toArray, List.set_cons_zero, List.set_cons_succ]
              refine wpB_take 3 _ ?_ rfl (by kernel_rfl) (fun _ _ _ h => h) rfl hHeld ?_ ?_
              rotate_left
              · (intro W hW; go_simp; try with_reducible rfl)
              try simp only [Act.put, List.setIfInBounds_toArray, List.set_cons_zero, List.set_cons_succ]
              refine wpB_take 4 _ ?_ rfl (by kernel_rfl) (fun _ _ _ h => h) rfl hHeld ?_ ?_
              rotate_left
              · (intro W hW; go_simp; try with_reducible rfl)
              try simp only [Act.put, List.setIfInBounds_toArray, List.set_cons_zero, List.set_cons_succ]
              refine wpB_take 5 _ ?_ rfl (by kernel_rfl) (fun _ _ _ h => h) rfl hHeld ?_ ?_
              rotate_left
              · (intro W hW; go_simp; exact eq_pair _ (d, k) _)
              try simp only [Act.put, List.setIfInBounds_toArray, List.set_cons_zero, List.set_cons_succ]
              refine wpB_done (by kernel_rfl) ?_ _
              have hne : (xs[m] == (d, k)) = false := by
                rw [beq_eq_false_iff_ne]
                intro h
                exact Q4.out (h ▸ List.getElem_mem hmx)
              rw [hne]
              clear hne
              go_wp2_with fail
              go_roundg g2
              case rel =>
                have hm := HM.out
                exact ⟨m + 1, by omega, by go_num, hHeld⟩
              case measure => omega
            · obtain rfl : m = xs.length := by omega
              obtain rfl : gk = 0 := by omega
              clear hm
              go_wp2_with fail
              refine (taken_any b f2 d k _ (s0.keep hK (by simp))).mono ?_
              rintro e w4 ⟨rfl, k4⟩
              rw [Q2.out, Q3.out]
              have hK := hK.trans k4
              clear k4
              go_wp2_with fail
              refine (mark_any b f2 d k _ (s0.keep hK (by simp))).mono ?_
              rintro e w5 ⟨rfl, k5, s5⟩
              have m1 : markE f2 d k = 13 := by unfold markE; rw [Q2.out, Q3.out]; rfl
              have m2 : markF f2 d k = f2 := by unfold markF; rw [Q2.out, Q3.out]; rfl
              rw [m1]
              rw [m2] at s5
              have hK5 : Kp [b] w0 w5 := (hK.weaken (fun _ _ h => by cases h)).trans k5
              have hown5 := ownsRow_keep hown0 hK5 (fun i hi => by simp; omega)
              have hbw := s0.lt
              have hne : w2.heap.size ≠ b := by omega
              have c2' := Kp.cellAt (X := []) (w0 := w5) (p := ⟨w2.heap.size, 0, none⟩) (v := .int .i64 d) ((hK5.cell (by simp; omega) (by simp; omega)).trans (c2 _ (Kp.refl _ _))) (by simp)
              have c3' := Kp.cellAt (X := []) (w0 := w5) (p := ⟨w2.heap.size, 1, none⟩) (v := .int .i64 k) ((hK5.cell (by simp; omega) (by simp; omega)).trans (c3 _ (Kp.refl _ _))) (by simp)
              have hsz5 := Nat.le_trans hsz0 hK5.size
              have hKw5 : Kp [] w w5 := hK0.step hK5 (fun i hi hm => by
                have := HB.out
                simp only [List.mem_singleton] at hm
                omega)
              have hK := Kp.refl [] w5
              clear c2 c3 hown0 s0 hK0 k5 m1 m2 hne hK5
              obtain ⟨i0, hi, hz0, hz1, hz2⟩ := info_parts Try.info31
              go_wp2_with (first | (at_builtin; refine wpList_append_mine _ rfl (.tmp 64) (.tmp 66) 27 rfl (b + 1) 31 i0 (.agg #[.int .i64 0, .int .i64 0]) 2 16 Try.underlying27 hi hz0 hz1 hz2 rfl (by decide) (.slice au xs.length cu) xs.length (Pairs xs) rfl (ownsRow_keep (X := []) hown5 ((Kp.refl _ w5).alloc _) (fun _ _ => by simp)) ⟨w5.heap.size, 0, none⟩ 1 1 [.int .i64 d, .int .i64 k] rfl rfl (new_cells w5 _ _) (one_cells2 rfl rfl) (by unfold maxLen; omega) (by omega) (by simp; omega) ?_))
              intro v' w6 hown' hkp _ _
              obtain ⟨av', cv', rfl⟩ := ownsRow_ex hown'
              have HO := Lib.hid hown'
              clear hown'
              go_wp2_with fail
              go_roundg g'
              case rel =>
                have hn := HN.out
                have k6 : Kp (Value.slice au xs.length cu).ownBlock.toList w5 w6 := ((Kp.refl _ w5).alloc _).trans hkp
                have hx : ∀ i, i < b + 1 → i ∉ (Value.slice au xs.length cu).ownBlock.toList := fun i hi hm => by
                  simp only [Option.mem_toList, Option.mem_def] at hm
                  have := HE.out _ hm; omega
                refine ⟨n + 1, f2, xs ++ [(d, k)], by omega, by go_num, s5.keep k6 (hx _ (by omega)), ?_, Q5.out, by simp; omega, hKw5.step k6 (fun i hi hm => ?_), Nat.le_trans hsz5 k6.size⟩
                · have e1 : (xs ++ [(d, k)]).length = xs.length + 1 := by simp
                  have e2 : Pairs (xs ++ [(d, k)]) = Pairs xs ++ [.int .i64 d, .int .i64 k] := by simp [Pairs]
                  rw [e1, e2]
                  exact HO.out
                · exact absurd hm (hx i (by have := HB.out; omega))
              case measure => omega
      · obtain rfl : n = os.length := by omega
        obtain rfl : gk = 0 := by omega
        clear hn
        have hgot := HG.out
        have s0 := hs
        have hown0 := hown
        have hK0 := hK
        obtain ⟨w0, rfl⟩ : ∃ w0 : World, w0 = wr := ⟨_, rfl⟩
        have HGT := Lib.hid hgot
        clear hs hown hK HG hgot
        go_wp2_with fail
        go_loopg [11] xs.length (fun g i wx => ∃ (m : Nat) (h : Int → Int → Bool), m + g = xs.length ∧ i = .int .i64 m ∧ Kp [b] w0 wx ∧ SpaceAt wx b h ∧ (∀ (j : Nat) (hj : j < xs.length), m ≤ j → h xs[j].1 xs[j].2 = true))
        case atStart => exact ⟨0, f, by omega, rfl, Kp.refl _ _, s0, fun j hj _ => (HGT.out.all _ (List.getElem_mem hj)).2⟩
        case round =>
          clear s0
          obtain ⟨m, h, hm, rfl, hK, hs, hall⟩ := hrel
          have HM := Lib.hid hm
          have HA := Lib.hid hall
          clear hall
          by_cases hmx : m < xs.length
          · obtain ⟨g2, rfl⟩ : ∃ g2, gk = g2 + 1 := ⟨gk - 1, by omega⟩
            clear hm
            have hmI : (m : Int) < (xs.length : Int) := by omega
            obtain ⟨g, c, hv2, e1, e2⟩ := own_at hown0 m hmx
            have hgb := own_block_ge hown0
            simp only [Value.slice.injEq] at hv2
            obtain ⟨rfl, -, rfl⟩ := hv2
            have hg := hgb g rfl
            obtain ⟨⟨d, k⟩, hq⟩ : ∃ q, q = xs[m] := ⟨_, rfl⟩
            have HQ := Lib.hid hq
            rw [← hq] at e1 e2
            simp only at e1 e2
            have hb1 : IsB d k = true := by have := (HGT.out.all _ (List.getElem_mem hmx)).1; rw [← hq] at this; exact this
            have hf1 : h d k = true := by have := HA.out m hmx (Nat.le_refl _); rw [← hq] at this; exact this
            have d1 := Kp.cellAt (X := [b]) e1 (by simp; omega)
            have d2 := Kp.cellAt (X := [b]) e2 (by simp; omega)
            have q1 : giveE h d k = 0 := by unfold giveE; rw [hb1, hf1]; rfl
            have q2 : giveF h d k = upd h d k false := by unfold giveF; rw [hb1, hf1]; rfl
            have q3 : (IsB d k && upd h d k false d k) = false := by simp [upd]
            have q4 : giveE (upd h d k false) d k = 1 := by unfold giveE; rw [q3]; rfl
            have q5 : giveF (upd h d k false) d k = upd h d k false := by unfold giveF; rw [q3]; rfl
            have Q1 := Lib.hid q1
            have Q2 := Lib.hid q2
            have Q3 := Lib.hid q3
            have Q4 := Lib.hid q4
            have Q5 := Lib.hid q5
            clear e1 e2 hq hgb hb1 hf1 q1 q2 q3 q4 q5
            go_wp2_with fail
            refine (give_any b h d k _ hs).mono ?_
            rintro e w3 ⟨rfl, k3, s3⟩
            rw [Q1.out]
            rw [Q2.out] at s3
            have hK := hK.trans k3
            clear hs k3
            go_wp2_with fail
            refine (give_any b _ d k _ s3).mono ?_
            rintro e w4 ⟨rfl, k4, s4⟩
            rw [Q4.out]
            rw [Q5.out] at s4
            have hK := hK.trans k4
            clear s3 k4
            go_wp2_with fail
            refine (taken_any b _ d k _ s4).mono ?_
            rintro e w5 ⟨rfl, k5⟩
            rw [Q3.out]
            have hK := hK.call k5
            have s5 := s4.keep k5 (by simp)
            clear s4 k5
            go_wp2_with fail
            go_roundg g2
            case rel =>
              have hm := HM.out
              refine ⟨m + 1, _, by omega, by go_num, hK, s5, fun j hj hmj => ?_⟩
              have := HA.out j hj (by omega)
              simp only [upd]
              rw [if_neg ?_]
              · exact this
              · intro hc
                have e1 : xs[j] = xs[m] := by
                  rw [← HQ.out]
                  exact Prod.ext hc.1 hc.2
                exact (List.pairwise_iff_getElem.1 HGT.out.nodup) m j hmx hj (by omega) e1.symm
            case measure => omega
          · obtain rfl : m = xs.length := by omega
            obtain rfl : gk = 0 := by omega
            clear hm
            go_wp2_with fail
            refine (live_true _).mono ?_
            rintro e w1 ⟨rfl, h1⟩
            go_wp2_with fail
            go_ret
            exact ⟨rfl, (hK0.step hK (fun i hi hm => by
              have := HB.out
              simp only [List.mem_singleton] at hm
              omega)).trans h1⟩

theorem once_lifted (os : Os) (started : os.Started) (H : Type) (enc : TypeId × Value → H) :
    ReturnsInHanded {} Try.checked os 4 .any (Rows.spaceOnceSpec.pre6 enc Try.prog Try.f4 Rows.spaceOnceRow.domain false) (Rows.spaceOnceSpec.post enc Try.prog Try.f4 false true false false) := by
  refine law_lifted Rows.spaceOnceSpec Try.func4 (by kernel_rfl) Try.underlying4 rfl (by decide +kernel) rfl ?_ ?_ os started H enc
    (ChangeSpec.witness6 (enc := enc) (C := Try.checked) false ⟨#[], #[.slice none 0 0], []⟩ 8 (by kernel_rfl) (by kernel_rfl) (by kernel_rfl) (by kernel_rfl))
  · intro H ds hl
    match ds, hl with
    | [d], _ => exact ⟨rfl, rfl, rfl⟩
  · rintro W vs ⟨v, vs', base, rfl, hok, hrd, rfl⟩
    obtain ⟨av, l, c, rfl, -⟩ := okWide_slice Try.underlying22 hok
    obtain ⟨xs, hs, -⟩ := script_of hrd rfl
    exact once_walk _ xs W hs

theorem space_once_holds : Rows.SpaceOnceSaid :=
  OpenClaim.holds_of_wide 4 Try.f4 rfl rfl rfl rfl rfl rfl rfl ⟨rfl, rfl, rfl, rfl, rfl⟩ rfl rfl rfl rfl rfl (by kernel_rfl) Try.func4 (by kernel_rfl)
    (of_decide_eq_true (by kernel_rfl)) (by unfold Func.isWrapper; first | (rw [if_pos (by decide +kernel)]; kernel_rfl) | (rw [if_neg (by decide +kernel)]; exact ⟨rfl, rfl⟩))
    (fun os started H enc _ => once_lifted os started H enc)
end Go.Proofs.Ytmegcmjklealbaa
