/-
  From a walk to a law's row: arguments that can be read; the row's statement out of 'it returns true and leaves what was there'.
-/
import Derived.Test.YtlomniffpjndfaaDoorP1
import Derived.Test.YtlomniffpjndfaaDoorRows
import Derived.ProofKit
import Derived.Carry
import Derived.Deep.Slices
namespace Go.Proofs.YtlomniffpjndfaaDoor
open Go.ChangeShapes Go.WideShapes Go.ChangeAt Go.RowKit Go.WideElems

theorem Tryd.own : ownKnob Tryd.prog.godebug = none := by kernel_rfl
theorem Tryd.laidOut : laidOutB Tryd.prog = true := by kernel_rfl

/-- cells that can be read as a type says -/
def Rd (P : Program) (w : World) (t : TypeId) (cs : List Value) : Prop :=
  ∃ (H : Type) (enc : TypeId × Value → H) (base : Nat) (spare : Nat → Bool) (held : Bool) (fuel : Nat) (x : DataW H × List MemPlace), DataW.trod enc P w base spare held fuel t cs = some x
theorem rd_int {P : Program} {w : World} {t : TypeId} {cs : List Value} {k : IntKind} (ht : P.underlying t = some (.int k)) (h : Rd P w t cs) : ∃ n, cs = [.int k n] ∧ (Lit.int k n).wf = true := by
  obtain ⟨H, enc, base, spare, held, fuel, x, h⟩ := h
  obtain ⟨n, h1, -, h2⟩ := DataW.trod_int ht h
  exact ⟨n, h1, h2⟩
theorem rd_bool {P : Program} {w : World} {t : TypeId} {cs : List Value} (ht : P.underlying t = some .bool) (h : Rd P w t cs) : ∃ b, cs = [.bool b] := by
  obtain ⟨H, enc, base, spare, held, fuel, x, h⟩ := h
  obtain ⟨n, h1, -⟩ := DataW.trod_bool ht h
  exact ⟨n, h1⟩
theorem rd_string {P : Program} {w : World} {t : TypeId} {cs : List Value} (ht : P.underlying t = some .string) (h : Rd P w t cs) : ∃ s, cs = [.string s] ∧ s.size ≤ maxLen := by
  obtain ⟨H, enc, base, spare, held, fuel, x, h⟩ := h
  obtain ⟨n, h1, -, h2⟩ := DataW.trod_string ht h
  exact ⟨n, h1, h2⟩
theorem rd_struct {P : Program} {w : World} {t : TypeId} {cs : List Value} {fs : Array Field} (ht : P.underlying t = some (.struct fs)) (h : Rd P w t cs) :
    cs.length = P.cellsOf t ∧ ∀ (i : Nat) (f : Field), fs[i]? = some f → Rd P w f.type ((cs.drop f.offset).take (P.cellsOf f.type)) := by
  obtain ⟨H, enc, base, spare, held, fuel, x, h⟩ := h
  obtain ⟨xs, n, -, -, hl, hxl, hf⟩ := DataW.trod_struct ht h
  refine ⟨hl, fun i f hi => ?_⟩
  have h1 := hf i f hi
  have hlt : i < xs.length := by
    rw [hxl]
    exact (Array.getElem?_eq_some_iff.1 hi).1
  rw [List.getElem?_eq_getElem hlt] at h1
  exact ⟨H, enc, base, spare, held, n, _, h1⟩
/-- a slice: its elements' cells, in a block that is there -/
theorem rd_slice {P : Program} {w : World} {t e : TypeId} {cs : List Value} (ht : P.underlying t = some (.slice e)) (hc : 0 < P.cellsOf e) (h : Rd P w t cs) :
    ∃ (av : Option Addr) (len cap : Nat), cs = [.slice av len cap] ∧ len ≤ cap ∧ cap ≤ maxLen ∧ (0 < len → ∃ b o, av = some ⟨b, o, none⟩ ∧ b < w.heap.size ∧
      ∀ i, i < len → ∃ es : List Value, es.length = P.cellsOf e ∧ Rd P w e es ∧ ∀ (j : Nat) (u : Value), es[j]? = some u → w.cell? ⟨b, o + i * P.cellsOf e + j, none⟩ = some u) := by
  obtain ⟨H, enc, base, spare, held, fuel, x, h⟩ := h
  rcases Deep.open_slice ht h with ⟨h1, -⟩ | ⟨a, len, cap, m, n, D, Pl, h1, -, hlc, hcm, hm, -, hi⟩
  · exact ⟨none, 0, 0, h1, Nat.le_refl _, Nat.zero_le _, fun h => by omega⟩
  · have hlm : len ≤ m := by rw [hm]; split <;> omega
    refine ⟨some a, len, cap, h1, hlc, hcm, fun hlen => ?_⟩
    have hcell : ∀ i, i < len → ∃ es : List Value, es.length = P.cellsOf e ∧ Rd P w e es ∧ ∀ j, j < P.cellsOf e → w.cell? ((a.add (i * P.cellsOf e)).add j) = es[j]? := by
      intro i hil
      obtain ⟨es, e1, e2⟩ := hi i (by omega)
      obtain ⟨-, e3, e4⟩ := World.cells?_some e1
      exact ⟨es, e3, ⟨H, enc, base, spare, held, n, _, e2⟩, e4⟩
    obtain ⟨b, o, sp⟩ := a
    have hsp : sp = none := by
      obtain ⟨es, e1, e2, e3⟩ := hcell 0 hlen
      have e4 := e3 0 hc
      rw [List.getElem?_eq_getElem (by omega)] at e4
      cases sp with
      | none => rfl
      | some q =>
        exfalso
        unfold World.cell? at e4
        have hs : ((({ block := b, off := o, spot := some q } : Addr).add (0 * P.cellsOf e)).add 0).spot.isSome = true := by
          unfold Addr.add; repeat' split
          all_goals simp_all
        rw [hs] at e4
        split at e4
        · simp at e4
        · cases e4
    subst hsp
    refine ⟨b, o, rfl, ?_, fun i hil => ?_⟩
    · obtain ⟨es, e1, e2, e3⟩ := hcell 0 hlen
      have e4 := e3 0 hc
      rw [List.getElem?_eq_getElem (by omega)] at e4
      have e5 := lt_of_cell e4
      rw [Addr.add_mid, Addr.add_mid] at e5
      exact e5
    · obtain ⟨es, e1, e2, e3⟩ := hcell i hil
      refine ⟨es, e1, e2, fun j u hu => ?_⟩
      have hj : j < es.length := (List.getElem?_eq_some_iff.1 hu).1
      have e4 := e3 j (by omega)
      rw [Addr.add_mid, Addr.add_mid, hu] at e4
      exact e4

theorem flat_at {α : Type} (f : α → List Value) (n : Nat) (hf : ∀ a, (f a).length = n) : ∀ (xs : List α) (i r : Nat) (hi : i < xs.length), r < n → (xs.flatMap f)[i * n + r]? = (f xs[i])[r]?
  | [], i, r, hi, _ => by simp at hi
  | x :: xs, i, r, hi, hr => by
    rw [List.flatMap_cons]
    cases i with
    | zero =>
      rw [List.getElem?_append_left (by rw [hf]; omega)]
      simp
    | succ i =>
      rw [List.getElem?_append_right (by rw [hf, Nat.add_mul]; omega), hf]
      have := flat_at f n hf xs i r (by simpa using hi) hr
      rw [show (i + 1) * n + r - n = i * n + r from by rw [Nat.add_mul]; omega, this]
      simp
theorem flat_len {α : Type} (f : α → List Value) (n : Nat) (hf : ∀ a, (f a).length = n) : ∀ xs : List α, (xs.flatMap f).length = xs.length * n
  | [] => by simp
  | x :: xs => by rw [List.flatMap_cons, List.length_append, hf, flat_len f n hf xs, List.length_cons, Nat.add_mul]; omega
/-- a slice that can be read, whose elements are decoded one by one -/
theorem rd_list {P : Program} {w : World} {t e : TypeId} {cs : List Value} (ht : P.underlying t = some (.slice e)) (h : Rd P w t cs) {α : Type} [Inhabited α] (f : α → List Value) (n : Nat) (hc : P.cellsOf e = n) (hn : 0 < n)
    (hf : ∀ a, (f a).length = n) (Q : α → Prop) (dec : ∀ es, Rd P w e es → ∃ a, es = f a ∧ Q a) :
    ∃ (xs : List α) (v : Value), cs = [v] ∧ SliceAt w.heap.size w v n xs.length (xs.flatMap f) ∧ (∀ a ∈ xs, Q a) := by
  obtain ⟨av, len, cap, rfl, hlc, hcm, hcell⟩ := rd_slice ht (by omega) h
  by_cases hl : 0 < len
  · obtain ⟨b, o, rfl, hb, hi⟩ := hcell hl
    obtain ⟨g, hg⟩ := Deep.choose_lt (n := len) (p := fun i (a : α) => Q a ∧ ∀ (j : Nat) (u : Value), (f a)[j]? = some u → w.cell? ⟨b, o + i * n + j, none⟩ = some u) (fun i hil => by
      obtain ⟨es, -, e2, e3⟩ := hi i hil
      obtain ⟨a, rfl, ha⟩ := dec es e2
      exact ⟨a, ha, fun j u hu => by have := e3 j u hu; rwa [hc] at this⟩)
    have hlen : ((List.range len).map g).length = len := by simp
    refine ⟨(List.range len).map g, _, rfl, ⟨flat_len f n hf _, some ⟨b, o, none⟩, cap, by rw [hlen], fun _ => ⟨b, o, rfl, by rw [hlen]; exact hlc, hb, hb, fun j u hu => ?_⟩⟩, fun a ha => ?_⟩
    · have hj : j < ((List.range len).map g).length * n := by
        rw [← flat_len f n hf]
        exact (List.getElem?_eq_some_iff.1 hu).1
      rw [hlen] at hj
      have hd : j / n < len := Nat.div_lt_of_lt_mul (by rw [Nat.mul_comm]; exact hj)
      have hjj : j / n * n + j % n = j := by have := Nat.div_add_mod j n; rw [Nat.mul_comm] at this; exact this
      have h1 := flat_at f n hf ((List.range len).map g) (j / n) (j % n) (by rw [hlen]; exact hd) (Nat.mod_lt _ hn)
      rw [hjj, hu] at h1
      have h2 : ((List.range len).map g)[j / n]'(by rw [hlen]; exact hd) = g (j / n) := by simp
      rw [h2] at h1
      have := (hg (j / n) hd).2 (j % n) u h1.symm
      rw [Nat.add_assoc, hjj] at this
      exact this
    · obtain ⟨i, hi2, rfl⟩ := List.mem_map.1 ha
      exact (hg i (List.mem_range.1 hi2)).1
  · obtain rfl : len = 0 := by omega
    exact ⟨[], _, rfl, ⟨by simp, av, cap, rfl, fun h => by simp at h⟩, fun a ha => by cases ha⟩

def RdAll (P : Program) (w : World) : List TypeId → List Value → Prop
  | [], vs => vs = []
  | t :: ts, vs => ∃ v vs' base, vs = v :: vs' ∧ Value.okWide P w .any base t v ∧ Rd P w t v.cells.toList ∧ RdAll P w ts vs'
theorem rdAll_of {H : Type} {enc : TypeId × Value → H} {P : Program} {w : World} {base b0 : Nat} {spare : Nat → Bool} {held : Bool} : ∀ (ts : List TypeId) (vs : List Value) (ds : List (DataW H)) (ps : List MemPlace),
    DataW.TrodAll enc P w base spare held ts vs ds ps → (∀ (j : Nat) t v, ts[j]? = some t → vs[j]? = some v → Value.okWide P w .any b0 t v) → RdAll P w ts vs ∧ ds.length = ts.length
  | [], vs, ds, ps, h, _ => by
    obtain ⟨rfl, rfl, -⟩ := trodAll_nil h
    exact ⟨rfl, rfl⟩
  | t :: ts, vs, ds, ps, h, hok => by
    obtain ⟨v, vs', d, ds', p, q, rfl, rfl, -, h1, h2⟩ := trodAll_cons h
    obtain ⟨r1, r2⟩ := rdAll_of ts vs' ds' q h2 (fun j t v h1 h2 => hok (j + 1) t v (by simpa using h1) (by simpa using h2))
    obtain ⟨fuel, h1⟩ := h1
    exact ⟨⟨v, vs', b0, rfl, hok 0 t v rfl rfl, ⟨H, enc, base, spare, held, fuel, _, h1⟩, r1⟩, by simp [r2]⟩
theorem trodAll_stays {H : Type} {enc : TypeId × Value → H} {P : Program} (hlo : laidOutB P = true) {W W' : World} (hb : Below W.heap.size W W') {sp' : Nat → Bool} : ∀ (ts : List TypeId) (vs : List Value) (ds : List (DataW H)) (ps : List MemPlace),
    (∀ t ∈ ts, P.readableRec t = true ∧ t < P.types.size) → DataW.TrodAll enc P W 0 (fun _ => true) true ts vs ds ps → (∀ p ∈ ps, p.block < W.heap.size) → (∀ p ∈ ps, sp' p.block = true) → DataW.TrodAll enc P W' 0 sp' true ts vs ds ps
  | [], vs, ds, ps, _, h, _, _ => by
    obtain ⟨rfl, rfl, rfl⟩ := trodAll_nil h
    exact trodAll_mk0
  | t :: ts, vs, ds, ps, hr, h, hlt, hsp => by
    obtain ⟨v, vs', d, ds', p, q, rfl, rfl, rfl, h1, h2⟩ := trodAll_cons h
    have e1 := Trod_stays (P := P) (sp' := sp') hlo (hr t (List.mem_cons_self ..)).1 (hr t (List.mem_cons_self ..)).2 h1 (fun x hx => hb.same (hlt x (List.mem_append_left _ hx))) (fun x hx => hsp x (List.mem_append_left _ hx))
    have e2 := trodAll_stays hlo hb ts vs' ds' q (fun t ht => hr t (List.mem_cons_of_mem _ ht)) h2 (fun x hx => hlt x (List.mem_append_right _ hx)) (fun x hx => hsp x (List.mem_append_right _ hx))
    exact trodAll_append e2 (trodAll_mk1 e1)

section
variable {H : Type} {enc : TypeId × Value → H} {P : Program}
theorem post_of_kp {f : Func} {s : ChangeSpec} {apart fresh handsOn again : Bool} {W W' : World} {args : Array Value} {v : Value} {ds gs : List (DataW H)} {before pa pv : List MemPlace}
    (hW : DataW.Whole enc P f.params.toList s.vars apart W args.toList ds gs before)
    (hres : ∀ (b : Nat) (sp : Nat → Bool) (hd : Bool), DataW.TrodAll enc P W' b sp hd f.resultTypes.toList (v.resultList f.resultTypes.size) (s.fn H (ds ++ gs)).results [])
    (hargs : ∀ sp : Nat → Bool, (∀ p ∈ before, sp p.block = true) → DataW.TrodAll enc P W' 0 sp true f.params.toList args.toList (s.fn H (ds ++ gs)).args pa)
    (hvars : ∀ sp : Nat → Bool, (∀ p ∈ before, sp p.block = true) → DataW.TrodVars enc P W' sp s.vars (s.fn H (ds ++ gs)).vars pv)
    (hps : before = pa ++ pv) (hb : Below W.heap.size W W')
    (hok : ∀ (j : Nat) (t : TypeId) (r : Value), f.resultTypes[j]? = some t → (v.resultList f.resultTypes.size)[j]? = some r → Value.okWide P W' .any 0 t r) :
    s.post enc P f apart fresh handsOn again W args v W' := by
  have hlt : ∀ p ∈ before, p.block < W.heap.size := fun p hp => hW.lt p hp
  have hold : ∀ p ∈ before, (fun b => decide (b < W.heap.size)) p.block = true := fun p hp => by simpa using hlt p hp
  refine ⟨ds, gs, before, [], pa, pv, hW, hres _ _ _, hargs _ hold, hvars _ hold, World.keptBut_mono (fun p hp => ⟨hp, ?_⟩) (hb.frame (· ∈ before)), fun _ => ?_⟩
  · rw [hps, List.mem_append] at hp
    exact Or.inr hp
  · obtain ⟨_, _, _, _, _, hz, hn⟩ := hW
    refine ⟨hok, _, _, ([] ++ pa) ++ pv, ⟨[] ++ pa, pv, trodAll_append (hargs _ (fun _ _ => rfl)) (hres _ _ _), hvars _ (fun _ _ => rfl), rfl, ?_, ?_⟩, ?_⟩
    · intro b off hp
      have hin : MemPlace.cell b off ∈ before := by rw [hps]; simpa using hp
      rw [hb.frozen (hlt _ hin)]
      exact hz b off hin
    · intro ha
      have := hn ha
      rw [hps] at this
      simpa using this
    · intro p hp _
      rw [hps]
      simpa using hp
end

set_option maxRecDepth 100000 in
/-- a law: it returns true, and leaves what was there: its row's inner statement -/
theorem law_lifted {f : FuncId} {fn : Func} {tb : TypeId} (s : ChangeSpec) (hf : Tryd.prog.funcs[f]? = some fn) (hinits : Tryd.checked.prog.inits.idxOf? f = none) (htb : Tryd.prog.underlying tb = some .bool) (hres : fn.resultTypes = #[tb])
    (hts : ∀ t ∈ fn.params.toList, Tryd.prog.readableRec t = true ∧ t < Tryd.prog.types.size) (hvars : s.vars = [])
    (hspec : ∀ (H : Type) (ds : List (DataW H)), ds.length = fn.params.toList.length → (s.fn H (ds ++ [])).results = [.lit (.bool true)] ∧ (s.fn H (ds ++ [])).args = ds ∧ (s.fn H (ds ++ [])).vars = [])
    (walk : ∀ (W : World) (vs : List Value), RdAll Tryd.prog W fn.params.toList vs → Calls Tryd.prog f vs.toArray W fun e W' => e = .returned (.bool true) ∧ Kp [] W W')
    (os : Os) (started : os.Started) (H : Type) (enc : TypeId × Value → H)
    (hwit : ∃ (w : World) (tape : Nat → Question → Nat) (i : Input), w.os = os ∧ World.Shaped Tryd.checked.prog (w.forCall tape i) ∧ i.vars = [] ∧ Input.okWide Tryd.checked.prog (w.forCall tape i) Reach.any w.heap.size f i ∧
      ChangeSpec.pre6 enc Tryd.checked.prog fn s [] false (w.forCall tape i).memory i.args ∧ ({} : Assume).holds Tryd.checked.prog (lone (Frame.enter Tryd.checked.prog f i.args CallKind.normal) [] (w.forCall tape i))) :
    ReturnsInHanded {} Tryd.checked os f .any (s.pre6 enc Tryd.prog fn [] false) (s.post enc Tryd.prog fn false true false false) := by
  refine returnsInHanded_of_change (C := Tryd.checked) Tryd.own started hinits hf hwit ?_
  intro W base args ds gs before hval0 hW _ _
  have hval : ∀ (j : Nat) t v, fn.params[j]? = some t → args[j]? = some v → Value.okWide Tryd.prog W .any base t v := hval0
  have hW' : DataW.Whole enc Tryd.prog fn.params.toList s.vars false W args.toList ds gs before := hW
  have hlt : ∀ p ∈ before, p.block < W.heap.size := fun p hp => hW'.lt p hp
  obtain ⟨p, q, hA0, hV, hpq, hfz, hnd⟩ := hW
  have hA : DataW.TrodAll enc Tryd.prog W 0 (fun _ => true) true fn.params.toList args.toList ds p := hA0
  have hV' : DataW.TrodVars enc Tryd.prog W (fun _ => true) s.vars gs q := hV
  rw [hvars] at hV'
  obtain ⟨rfl, rfl⟩ := trodVars_none hV'
  rw [List.append_nil] at hpq
  subst hpq
  obtain ⟨hr, hlen⟩ := rdAll_of (b0 := base) _ _ _ _ hA (fun j t v h1 h2 => hval j t v (by simpa using h1) (by simpa using h2))
  obtain ⟨s1, s2, s3⟩ := hspec H ds hlen
  have hargs : args = args.toList.toArray := by simp
  rw [hargs]
  refine (walk W args.toList hr).mono ?_
  rintro e W' ⟨rfl, hk⟩
  refine ⟨.bool true, rfl, ?_⟩
  have hb := hk.below
  refine post_of_kp (P := Tryd.prog) (pa := before) (pv := []) hW' ?_ ?_ ?_ (by simp) hb ?_
  · intro b sp hd
    rw [s1, hres]
    exact trodAll_mk1 (shut_bool htb true)
  · intro sp hsp
    rw [s2]
    show DataW.TrodAll enc Tryd.prog W' 0 sp true fn.params.toList args.toList ds before
    exact trodAll_stays Tryd.laidOut hb _ _ _ _ hts hA hlt hsp
  · intro sp _
    rw [s3, hvars]
    exact rfl
  · exact ok_one hres rfl (okWide_bool_mk htb true)
end Go.Proofs.YtlomniffpjndfaaDoor
