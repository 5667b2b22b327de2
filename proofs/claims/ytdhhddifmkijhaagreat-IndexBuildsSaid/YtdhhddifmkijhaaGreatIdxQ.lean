/-
  remove: what Delete does.
-/
import Derived.Test.YtdhhddifmkijhaaGreatIdxP
namespace Go.Proofs.YtdhhddifmkijhaaGreat
open Go.RowKit Go.ChangeMaps Go.Maps Go.WideShapes Go.WideMaps Go.WideElems Go.MapKept Go.ChangeShapes

theorem del_ent {I : Ib} {w : World} {x : Ix} (h : IxAt I w x) (hf : Fit x) {k : ByteArray} (hk : k.size ≤ maxLen) (ty : TypeId) :
    ∃ w', (Builtin.delete_ #[65, 9] ty #[.map (some I.e), .string k]).run Tryz.prog w = .ok (.tuple #[]) w' ∧ IxAt I w' { x with E := aDel k x.E } ∧ Kp [I.e] w w' := by
  obtain ⟨w', h1, h2, h3⟩ := MapK.drop (P := Tryz.prog) (encs_str under_str) under_mEnt h.ents hf.kE (k := k) hk ty
  rw [show kDel k (x.E.map fun p => (p.1, Value.agg (EntVA p.2))) = (aDel k x.E).map fun p => (p.1, Value.agg (EntVA p.2)) from kDel_map (fun n => Value.agg (EntVA n)) k x.E] at h2
  exact ⟨w', h1, h.withE h3 h2, h3⟩
theorem put_gone {I : Ib} {w : World} {x : Ix} (h : IxAt I w x) (hf : Fit x) {k : ByteArray} (hk : k.size ≤ maxLen) :
    ∃ w', (Instr.mapUpdate 66 (.map (some I.g)) (.string k) (.bool true)).run Tryz.prog w = .ok () w' ∧ IxAt I w' { x with G := addS x.G k } ∧ Kp [I.g] w w' := by
  obtain ⟨w', h1, h2, h3⟩ := MapK.store (P := Tryz.prog) (encs_str under_str) under_mStrB h.gone hf.kG (k := k) hk (.bool true)
  rw [kPut_set] at h2
  exact ⟨w', h1, h.withG h3 h2, h3⟩
theorem put_ent {I : Ib} {w : World} {x : Ix} (h : IxAt I w x) (hf : Fit x) {k : ByteArray} (hk : k.size ≤ maxLen) (n : EntD) :
    ∃ w', (Instr.mapUpdate 65 (.map (some I.e)) (.string k) (.agg (EntVA n))).run Tryz.prog w = .ok () w' ∧ IxAt I w' { x with E := aPut k n x.E } ∧ Kp [I.e] w w' := by
  obtain ⟨w', h1, h2, h3⟩ := MapK.store (P := Tryz.prog) (encs_str under_str) under_mEnt h.ents hf.kE (k := k) hk (.agg (EntVA n))
  rw [show kPut k (Value.agg (EntVA n)) (x.E.map fun p => (p.1, Value.agg (EntVA p.2))) = (aPut k n x.E).map fun p => (p.1, Value.agg (EntVA p.2)) from kPut_map (fun n => Value.agg (EntVA n)) k n x.E] at h2
  exact ⟨w', h1, h.withE h3 h2, h3⟩
theorem Fit.delE {x : Ix} (h : Fit x) (k : ByteArray) : Fit { x with E := aDel k x.E } :=
  ⟨fun p hp => h.keys p (aDel_mem hp), h.gone, h.vols, h.had, h.next⟩
theorem Fit.putG {x : Ix} (h : Fit x) {k : ByteArray} (hk : k.size ≤ 32) : Fit { x with G := addS x.G k } :=
  ⟨h.keys, fun a ha => by rcases addS_mem.1 ha with ha | rfl; exact h.gone a ha; exact hk, h.vols, h.had, h.next⟩
theorem takeL_mem {p : Int × VolD} : ∀ {ids : List Int} {V : List (Int × VolD)}, p ∈ (takeL ids V).2 → p ∈ V
  | [], _, h => h
  | _ :: r, _, h => aDel_mem (takeL_mem (ids := r) h)
theorem takeL_len : ∀ (ids : List Int) (V : List (Int × VolD)), (takeL ids V).1.length = ids.length
  | [], _ => rfl
  | _ :: r, _ => congrArg Nat.succ (takeL_len r _)
theorem Fit.takeV {x : Ix} (h : Fit x) (ids : List Int) : Fit { x with V := (takeL ids x.V).2 } :=
  ⟨h.keys, h.gone, fun p hp => h.vols p (takeL_mem hp), h.had, h.next⟩
/-- volumes that were taken, each with its places -/
def OldsAt (X : List Nat) (base : Nat) (W : World) (v : Value) (vs : List VolD) : Prop :=
  ∃ (vls : List (VolD × Value)) (av : Option Addr) (cv : Nat), v = .slice av vs.length cv ∧ vls.map (·.1) = vs ∧ W.ownsRow base 36 4 v vs.length (vls.flatMap volC) ∧ ∀ q ∈ vls, LocsT X W q.2 q.1.locs
theorem olds_nil (X : List Nat) (base : Nat) (W : World) : OldsAt X base W (.slice none 0 0) [] := ⟨[], none, 0, rfl, rfl, ⟨rfl, .inl ⟨rfl, rfl⟩⟩, by simp⟩
theorem OldsAt.keep {X Y : List Nat} {base : Nat} {W W' : World} {v : Value} {vs : List VolD} (h : OldsAt X base W v vs) (k : Kp Y W W') (hy : ∀ i ∈ Y, i < W.heap.size → i ∈ X) (hb : ∀ i ∈ Y, i < W.heap.size → i < base) : OldsAt X base W' v vs := by
  obtain ⟨vls, av, cv, rfl, h1, h2, h3⟩ := h
  have hk2 : Kp (Y.filter (· < W.heap.size)) W W' := k.weaken (fun i hi hm => by simp [hm, hi])
  refine ⟨vls, av, cv, rfl, h1, ownsRow_keep h2 hk2 (fun i hi hm => ?_), fun q hq => (h3 q hq).keep k hy⟩
  simp only [List.mem_filter, decide_eq_true_eq] at hm
  have := hb i hm.1 hm.2
  omega
theorem OldsAt.base {X : List Nat} {b b' : Nat} {W : World} {v : Value} {vs : List VolD} (h : OldsAt X b W v vs) (hb : b' ≤ b) : OldsAt X b' W v vs := by
  obtain ⟨vls, av, cv, rfl, h1, h2, h3⟩ := h
  exact ⟨vls, av, cv, rfl, h1, ownsRow_base h2 hb, h3⟩
def Ix.remove (x : Ix) (key : ByteArray) : List VolD × Ix :=
  let x1 : Ix := { x with E := aDel key x.E, G := addS x.G key }
  let id := (x.get key).1.vol
  if x1.lives id then ([], x1) else ((takeL [id] x1.V).1, { x1 with V := (takeL [id] x1.V).2 })
theorem get_vol {x : Ix} (h : Fit x) (k : ByteArray) : 0 ≤ (x.get k).1.vol ∧ (x.get k).1.vol ≤ 1099511627776 := by
  unfold Ix.get
  cases hg : aGet k x.E with
  | none => exact ⟨by decide, by decide⟩
  | some n =>
    have := h.keys _ (aGet_mem hg)
    exact ⟨this.2.2.2.2.2.2.2.1, this.2.2.2.2.2.2.2.2⟩
set_option maxHeartbeats 4000000 in
set_option maxRecDepth 20000 in
theorem iremove {I : Ib} {x : Ix} (hf : Fit x) (hz : x.E.length ≤ 1000) (key : ByteArray) (hk : key.size ≤ 32) (w : World) (h : IxAt I w x) :
    Calls Tryz.prog 32 #[I.p, .string key] w fun e w' => ∃ v, e = .returned v ∧ OldsAt I.X w.heap.size w' v (x.remove key).1 ∧ IxAt I w' (x.remove key).2 ∧ Kp I.X w w' := by
  have hkm := max_key hk
  have ap := Ib.apart h.apart
  have hv := get_vol hf key
  have l1 := look_ent1 h hf hkm
  obtain ⟨w1, r1, i1, k1⟩ := del_ent h hf hkm 0
  have hf1 := hf.delE key
  obtain ⟨w2, r2, i2, k2⟩ := put_gone i1 hf1 hkm
  have hf2 := hf1.putG hk
  obtain ⟨c0, -, -, -, -⟩ := h.cells
  obtain ⟨-, d1, -, -, -⟩ := i1.cells
  have hz2 : (aDel key x.E).length ≤ 1000 := by
    have : ∀ l : List (ByteArray × EntD), (aDel key l).length ≤ l.length := fun l => by
      induction l with
      | nil => exact Nat.le_refl _
      | cons p r ih =>
        unfold aDel
        split
        · simp
        · simp only [List.length_cons]; omega
    exact Nat.le_trans (this x.E) hz
  obtain ⟨⟨a1, id, a3, a4, a5⟩, hn⟩ : ∃ n, n = (x.get key).1 := ⟨_, rfl⟩
  rw [← hn] at l1 hv
  simp only [EntVA] at l1
  simp only at hv
  obtain ⟨x1, hx1⟩ : ∃ x1 : Ix, x1 = { x with E := aDel key x.E, G := addS x.G key } := ⟨_, rfl⟩
  have hrem : x.remove key = if x1.lives id then ([], x1) else ((takeL [id] x1.V).1, { x1 with V := (takeL [id] x1.V).2 }) := by
    unfold Ix.remove
    rw [← hn, hx1]
  have i2' : IxAt I w2 x1 := by rw [hx1]; exact i2
  have hf2' : Fit x1 := by rw [hx1]; exact hf2
  have hz2' : x1.E.length ≤ 1000 := by rw [hx1]; exact hz2
  have kE : Kp I.X w w2 := (k1.weaken (fun i _ hi => by simp only [List.mem_singleton] at hi; subst hi; exact I.mem.2.1)).trans (k2.weaken (fun i _ hi => by simp only [List.mem_singleton] at hi; subst hi; exact I.mem.2.2.1))
  have HR := Lib.hid hrem
  have HX := Lib.hid hx1
  have HN := Lib.hid hn
  clear hrem hx1 hn i1 i2
  have hfld : (Instr.field 38 (.agg #[.string a1, .int .i64 id, .int .i64 a3, .int .i64 a4, .string a5]) 1).run Tryz.prog w = .ok (.int .i64 id) w := by rfl
  go_enter Tryz.func32, Tryz.ntmps32
  go_wp2_with fail
  refine (ilives hf2' hz2' id _ i2').mono ?_
  rintro e w3 ⟨rfl, k3⟩
  have i3 := i2'.keep0 k3
  cases hb : x1.lives id with
  | true =>
    have hr := HR.out
    rw [hb, if_pos rfl] at hr
    have HR2 := Lib.hid hr
    clear hr
    go_wp2_with fail
    go_ret
    exact ⟨_, rfl, by rw [HR2.out]; exact olds_nil _ _ _, by rw [HR2.out]; exact i3, kE.call k3⟩
  | false =>
    have hr := HR.out
    rw [hb, if_neg (by simp)] at hr
    have HR2 := Lib.hid hr
    clear hr
    go_wp2_with fail
    have kA : Kp [] w3 (w3.alloc (.cells #[.int .i64 id] 3)) := (Kp.refl _ _).alloc _
    have hids : SliceAt (w3.heap.size + 1) (w3.alloc (.cells #[.int .i64 id] 3)) (.slice (some ⟨w3.heap.size, 0, none⟩) 1 1) 1 [id].length ([id].map (Value.int .i64)) := slice_new w3 3 [.int .i64 id] 1 1 rfl
    refine (itake hf2' [id] _ _ _ (i3.keep0 kA) hids (by simp) (fun d hd => ?_) (fun g hg => ?_)).mono ?_
    · rw [List.mem_singleton] at hd
      subst hd
      exact wf_i64 (by omega) (by omega)
    · simp only [Value.ownBlock, Option.some.injEq] at hg
      have := i3.lts _ I.mem.2.2.2.1
      omega
    rintro e w4 ⟨vls, av, cv, rfl, ha, hO, hL, hI, hk4⟩
    have hkw : Kp I.X w w4 := ((kE.call k3).call kA).trans (hk4.weaken (fun i _ hi => by simp only [List.mem_singleton] at hi; subst hi; exact I.mem.2.2.2.1))
    have hsz : w.heap.size ≤ w3.heap.size := (kE.call k3).size
    have hold : OldsAt I.X w.heap.size w4 (.slice av [id].length cv) (takeL [id] x1.V).1 := by
      refine ⟨vls, av, cv, by rw [takeL_len], ha, ?_, hL⟩
      rw [takeL_len]
      exact ownsRow_base hO (by rw [World.size_alloc]; omega)
    have HO := Lib.hid hold
    have HI := Lib.hid hI
    have HK := Lib.hid hkw
    clear hold hI hkw hO hL ha
    go_wp2_with fail
    go_ret
    exact ⟨_, rfl, by rw [HR2.out]; exact HO.out, by rw [HR2.out]; exact HI.out, HK.out⟩
end Go.Proofs.YtdhhddifmkijhaaGreat
