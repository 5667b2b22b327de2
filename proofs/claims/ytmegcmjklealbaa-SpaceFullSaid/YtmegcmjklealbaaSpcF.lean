/-
  SpaceFull: of a disk 48 slots are taken, and no more. For every two disks.
  Conditions: none beyond the row's own.
-/
import Derived.Test.YtmegcmjklealbaaSpcL
import Derived.Test.YtmegcmjklealbaaRow
namespace Go.Proofs.Ytmegcmjklealbaa
open Go.ChangeShapes Go.WideShapes Go.ChangeAt Go.RowKit Go.WideElems

theorem least_at {f : Int → Int → Bool} {d : Int} {n : Nat} : ∀ (m k : Nat), (∀ s : Nat, k ≤ s → s < n → f d s = true) → f d n = false → k ≤ n → n < k + m → leastFrom f d m k = some n
  | 0, k, _, _, h1, h2 => by omega
  | m + 1, k, h, hn, h1, h2 => by
    simp only [leastFrom]
    by_cases e : k = n
    · subst e
      rw [hn]; rfl
    · rw [h k (Nat.le_refl _) (by omega), if_pos rfl]
      exact least_at m (k + 1) (fun s h3 h4 => h s (by omega) h4) hn (by omega) (by omega)
theorem least_none {f : Int → Int → Bool} {d : Int} : ∀ (m k : Nat), (∀ s : Nat, k ≤ s → s < k + m → f d s = true) → leastFrom f d m k = none
  | 0, _, _ => rfl
  | m + 1, k, h => by
    simp only [leastFrom]
    rw [h k (Nat.le_refl _) (by omega), if_pos rfl]
    exact least_none m (k + 1) (fun s h3 h4 => h s (by omega) (by omega))
theorem free_all {f : Int → Int → Bool} {d : Int} : ∀ (m k : Nat), (∀ s : Nat, k ≤ s → s < k + m → f d s = false) → freeFrom f d m k = m
  | 0, _, _ => rfl
  | m + 1, k, h => by
    simp only [freeFrom]
    rw [h k (Nat.le_refl _) (by omega), free_all m (k + 1) (fun s h3 h4 => h s (by omega) (by omega))]
    simp; omega
theorem free_none {f : Int → Int → Bool} {d : Int} : ∀ (m k : Nat), (∀ s : Nat, k ≤ s → s < k + m → f d s = true) → freeFrom f d m k = 0
  | 0, _, _ => rfl
  | m + 1, k, h => by
    simp only [freeFrom]
    rw [h k (Nat.le_refl _) (by omega), free_none m (k + 1) (fun s h3 h4 => h s (by omega) (by omega))]
    simp
structure FullTo (f : Int → Int → Bool) (d other : Int) (n : Nat) : Prop where
  dk : DiskB d = true
  ok : DiskB other = true
  ne : other ≠ d
  at_ : ∀ s : Nat, s < 48 → f d s = decide (s < n)
  off : ∀ s : Nat, s < 48 → f other s = false
theorem full_take {f : Int → Int → Bool} {d other : Int} {n : Nat} (h : FullTo f d other n) (hn : n < 48) : takeR f d = ((n : Int), 0) ∧ FullTo (takeF f d) d other (n + 1) := by
  have e : leastFrom f d 48 0 = some n := least_at 48 0 (fun s _ hs => by rw [h.at_ s (by omega)]; simpa using hs) (by rw [h.at_ n hn]; simp) (by omega) (by omega)
  unfold takeR takeF
  rw [h.dk, if_pos rfl, if_pos rfl, e]
  refine ⟨rfl, h.dk, h.ok, h.ne, fun s hs => ?_, fun s hs => ?_⟩
  · simp only [upd]
    by_cases e : s = n
    · subst e; simp
    · rw [if_neg (by omega), h.at_ s hs]
      simp only [decide_eq_decide]
      omega
  · simp only [upd]
    rw [if_neg (fun c => h.ne c.1), h.off s hs]
theorem full_none {f : Int → Int → Bool} {d other : Int} (h : FullTo f d other 48) : takeR f d = (0, 7) ∧ takeF f d = f := by
  have e : leastFrom f d 48 0 = none := least_none 48 0 (fun s _ hs => by rw [h.at_ s (by omega)]; simpa using hs)
  unfold takeR takeF
  rw [h.dk, if_pos rfl, if_pos rfl, e]
  exact ⟨rfl, rfl⟩
theorem full_all {f : Int → Int → Bool} {d other : Int} (h : FullTo f d other 48) : allGo f f [other, d, other] [] = ([], 7, f) := by
  have e : leastFrom f other 48 0 = some 0 := least_at 48 0 (fun s _ hs => by omega) (h.off 0 (by omega)) (by omega) (by omega)
  have e1 : takeR f other = (0, 0) := by
    unfold takeR
    rw [h.ok, if_pos rfl, e]; rfl
  have e2 : takeF f other = upd f other ((0 : Nat) : Int) true := by
    unfold takeF
    rw [h.ok, if_pos rfl, e]
  have e3 : takeR (takeF f other) d = (0, 7) := by
    rw [e2]
    unfold takeR
    rw [h.dk, if_pos rfl, least_none 48 0 (fun s _ hs => ?_)]
    simp only [upd]
    rw [if_neg (fun c => h.ne c.1.symm), h.at_ s (by omega)]
    simpa using hs
  simp [allGo, e1, e3]
theorem full_free {f : Int → Int → Bool} {d other : Int} (h : FullTo f d other 48) : freeN f other = 48 ∧ freeN f d = 0 := by
  unfold freeN
  rw [h.dk, h.ok, if_pos rfl, if_pos rfl]
  exact ⟨free_all 48 0 (fun s _ hs => h.off s (by omega)), free_none 48 0 (fun s _ hs => by rw [h.at_ s (by omega)]; simpa using hs)⟩

set_option maxHeartbeats 1000000 in
theorem full_walk (d other : Int) (w : World) : Calls Try.prog 5 #[.int .i64 d, .int .i64 other] w fun e w' => e = .returned (.bool true) ∧ Kp [] w w' := by
  by_cases g1 : d < 0
  · go_enter Try.func5, Try.ntmps5
    go_wp2_with fail
    refine (live_true _).mono ?_
    rintro e w1 ⟨rfl, h1⟩
    go_wp2_with fail
    go_ret
    exact ⟨rfl, h1⟩
  by_cases g2 : d > 11
  · go_enter Try.func5, Try.ntmps5
    go_wp2_with fail
    refine (live_true _).mono ?_
    rintro e w1 ⟨rfl, h1⟩
    go_wp2_with fail
    go_ret
    exact ⟨rfl, h1⟩
  by_cases g3 : other < 0
  · go_enter Try.func5, Try.ntmps5
    go_wp2_with fail
    refine (live_true _).mono ?_
    rintro e w1 ⟨rfl, h1⟩
    go_wp2_with fail
    go_ret
    exact ⟨rfl, h1⟩
  by_cases g4 : other > 11
  · go_enter Try.func5, Try.ntmps5
    go_wp2_with fail
    refine (live_true _).mono ?_
    rintro e w1 ⟨rfl, h1⟩
    go_wp2_with fail
    go_ret
    exact ⟨rfl, h1⟩
  by_cases g5 : other = d
  · have g5' : (other == d) = true := by simpa using g5
    go_enter Try.func5, Try.ntmps5
    go_wp2_with fail
    refine (live_true _).mono ?_
    rintro e w1 ⟨rfl, h1⟩
    go_wp2_with fail
    go_ret
    exact ⟨rfl, h1⟩
  have g5' : (other == d) = false := by simpa using g5
  have h0 : FullTo noneTaken d other 0 := ⟨by simp [DiskB]; omega, by simp [DiskB]; omega, g5, fun _ _ => rfl, fun _ _ => rfl⟩
  go_enter Try.func5, Try.ntmps5
  go_wp2_with fail
  refine (new_any _).mono ?_
  rintro e w1 ⟨rfl, k1, s1, z1⟩
  obtain ⟨b, hb⟩ : ∃ b, b = w.heap.size := ⟨_, rfl⟩
  rw [← hb] at s1 ⊢
  have HB := Lib.hid hb
  clear hb z1 g1 g2 g3 g4 g5 g5'
  go_wp2_with fail
  go_loopg [6] 48 (fun g i wr => ∃ (n : Nat) (f : Int → Int → Bool), n + g = 48 ∧ i = .int .i64 n ∧ SpaceAt wr b f ∧ FullTo f d other n ∧ Kp [b] w1 wr)
  case atStart => exact ⟨0, _, by omega, rfl, s1, h0, Kp.refl _ _⟩
  case round =>
    obtain ⟨n, f, hn, rfl, hs, hf, hK⟩ := hrel
    have HN := Lib.hid hn
    have HF := Lib.hid hf
    clear hf s1 h0
    by_cases hlt : n < 48
    · obtain ⟨g', rfl⟩ : ∃ g', gk = g' + 1 := ⟨gk - 1, by omega⟩
      clear hn
      have hltI : (n : Int) < 48 := by omega
      go_wp2_with fail
      refine (take_any b f d _ hs).mono ?_
      rintro e w2 ⟨rfl, k2, s2⟩
      obtain ⟨q1, q2⟩ := full_take HF.out hlt
      rw [q1]
      have HQ := Lib.hid q2
      generalize takeF f d = f2 at *
      clear hs q1 q2
      go_wp2_with fail
      go_roundg g'
      case rel =>
        have hn := HN.out
        exact ⟨n + 1, f2, by omega, by go_num, s2, HQ.out, hK.trans k2⟩
      case measure => omega
    · obtain rfl : n = 48 := by omega
      obtain rfl : gk = 0 := by omega
      clear hn
      go_wp2_with fail
      refine (take_any b f d _ hs).mono ?_
      rintro e w2 ⟨rfl, k2, s2⟩
      rw [(full_none HF.out).1]
      rw [(full_none HF.out).2] at s2
      have hb2 := s2.lt
      go_wp2_with fail
      refine (all_any b _ _ [other, d, other] _ (s2.keep ((Kp.refl [] _).alloc _) (by simp)) _ (slice_new _ _ _ 1 3 rfl) (fun _ b1 o c h => by
        simp only [Value.slice.injEq, Option.some.injEq, Addr.mk.injEq] at h
        omega) (by simp)).mono ?_
      rintro e w3 ⟨u3, rfl, k3, s3, o3⟩
      rw [full_all HF.out] at s3 o3 ⊢
      simp only at s3 o3 ⊢
      obtain ⟨a3, c3, rfl⟩ := ownsRow_ex o3
      have kB : Kp [b] w1 w3 := ((hK.trans k2).alloc _).trans k3
      clear k3 k2 hs hK s2 o3
      simp only [List.length_nil]
      go_wp2_with fail
      refine (free_any b _ other _ s3).mono ?_
      rintro e w4 ⟨rfl, k4⟩
      rw [(full_free HF.out).1]
      have s4 := s3.keep k4 (by simp)
      have kC := kB.call k4
      clear k4 kB s3
      go_wp2_with fail
      refine (free_any b _ d _ s4).mono ?_
      rintro e w5 ⟨rfl, k5⟩
      rw [(full_free HF.out).2]
      have kD := kC.call k5
      clear k5 kC s4
      go_wp2_with fail
      refine (live_true _).mono ?_
      rintro e w6 ⟨rfl, k6⟩
      go_wp2_with fail
      go_ret
      refine ⟨rfl, ?_⟩
      have hb := HB.out
      exact k1.step (kD.call k6) (fun i hi hm => by
        simp only [List.mem_singleton] at hm
        omega)

theorem full_lifted (os : Os) (started : os.Started) (H : Type) (enc : TypeId × Value → H) :
    ReturnsInHanded {} Try.checked os 5 .any (Rows.spaceFullSpec.pre6 enc Try.prog Try.f5 Rows.spaceFullRow.domain false) (Rows.spaceFullSpec.post enc Try.prog Try.f5 false true false false) := by
  refine law_lifted Rows.spaceFullSpec Try.func5 (by kernel_rfl) Try.underlying4 rfl (by decide +kernel) rfl ?_ ?_ os started H enc
    (ChangeSpec.witness6 (enc := enc) (C := Try.checked) false ⟨#[], #[.int .i64 0, .int .i64 0], []⟩ 8 (by kernel_rfl) (by kernel_rfl) (by kernel_rfl) (by kernel_rfl))
  · intro H ds hl
    match ds, hl with
    | [d, d2], _ => exact ⟨rfl, rfl, rfl⟩
  · rintro W vs ⟨v, vs', base, rfl, hok, hrd, v2, vs2, base2, rfl, hok2, hrd2, rfl⟩
    obtain ⟨d, rfl, -⟩ := okWide_int Try.underlying3 hok
    obtain ⟨d2, rfl, -⟩ := okWide_int Try.underlying3 hok2
    exact full_walk d d2 W

theorem space_full_holds : Rows.SpaceFullSaid :=
  OpenClaim.holds_of_wide 5 Try.f5 rfl rfl rfl rfl rfl rfl rfl ⟨rfl, rfl, rfl, rfl, rfl⟩ rfl rfl rfl rfl rfl (by kernel_rfl) Try.func5 (by kernel_rfl)
    (of_decide_eq_true (by kernel_rfl)) (by unfold Func.isWrapper; first | (rw [if_pos (by decide +kernel)]; kernel_rfl) | (rw [if_neg (by decide +kernel)]; exact ⟨rfl, rfl⟩))
    (fun os started H enc _ => full_lifted os started H enc)
end Go.Proofs.Ytmegcmjklealbaa
