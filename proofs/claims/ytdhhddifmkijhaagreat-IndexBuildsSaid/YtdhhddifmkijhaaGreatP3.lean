/-
  take: volumes are taken away.
  A map as a list of entries, as the library's iterators ask for it ('ownsMap'). Over any program.
-/
import Derived.Test.YtdhhddifmkijhaaGreatIdxL
import Derived.Test.YtdhhddifmkijhaaGreatMap
import Derived.Shelf.SlIter.AllValuesS
namespace Go.Proofs.YtdhhddifmkijhaaGreat
open Go.RowKit Go.ChangeMaps Go.Maps Go.WideShapes Go.WideMaps Go.WideElems Go.MapKept Go.ChangeShapes

/-- cells of volumes, each with its places' slice -/
def volC (q : VolD × Value) : List Value := [.int .i64 q.1.id, .int .i64 q.1.gen, .int .i64 q.1.len, q.2]
abbrev volF (p : Int × VolD × Value) : Int × Value := (p.1, Value.agg (VolVA p.2.1 p.2.2))
abbrev volP (p : Int × VolD × Value) : Int × VolD := (p.1, p.2.1)
def vget (id : Int) (V : List (Int × VolD)) : VolD := (aGet id V).getD zeroVol
def vgetS (id : Int) (VS : List (Int × VolD × Value)) : VolD × Value := (aGet id VS).getD (zeroVol, .slice none 0 0)
def takeL : List Int → List (Int × VolD) → List VolD × List (Int × VolD)
  | [], V => ([], V)
  | id :: r, V => let q := takeL r (aDel id V); (vget id V :: q.1, q.2)
theorem vget_S (id : Int) (VS : List (Int × VolD × Value)) : (vgetS id VS).1 = vget id (VS.map volP) := by
  unfold vgetS vget
  rw [show aGet id (VS.map volP) = (aGet id VS).map (·.1) from aGet_vals (fun q : VolD × Value => q.1) id VS]
  cases aGet id VS <;> rfl
theorem adel_S (id : Int) (VS : List (Int × VolD × Value)) : (aDel id VS).map volP = aDel id (VS.map volP) :=
  (aDel_vals (fun q : VolD × Value => q.1) id VS).symm
theorem look_volK {w : World} {b : Nat} {VS : List (Int × VolD × Value)} (h : MapK (Value.int .i64) w b (VS.map volF)) (hk : ∀ p ∈ VS.map volF, (Lit.int .i64 p.1).wf = true) {d : Int} (hd : (Lit.int .i64 d).wf = true) :
    (Instr.lookup 67 (.map (some b)) (.int .i64 d) false).run Tryz.prog w = .ok (.agg (VolVA (vgetS d VS).1 (vgetS d VS).2)) w := by
  have h0 := MapK.look (P := Tryz.prog) (encs_int under_int) under_mVol h hk (k := d) hd _ (zero_vol w) false
  have hg : kGet d (VS.map volF) = (aGet d VS).map (fun q => .agg (VolVA q.1 q.2)) := kGet_map (fun q : VolD × Value => Value.agg (VolVA q.1 q.2)) d VS
  rw [h0, hg]
  unfold vgetS
  cases aGet d VS <;> rfl
theorem drop_volK {w : World} {b : Nat} {VS : List (Int × VolD × Value)} (h : MapK (Value.int .i64) w b (VS.map volF)) (hk : ∀ p ∈ VS.map volF, (Lit.int .i64 p.1).wf = true) {d : Int} (hd : (Lit.int .i64 d).wf = true) (ty : TypeId) :
    ∃ w', (Builtin.delete_ #[67, 3] ty #[.map (some b), .int .i64 d]).run Tryz.prog w = .ok (.tuple #[]) w' ∧ MapK (Value.int .i64) w' b ((aDel d VS).map volF) ∧ Kp [b] w w' := by
  obtain ⟨w', h1, h2, h3⟩ := MapK.drop (P := Tryz.prog) (encs_int under_int) under_mVol h hk (k := d) hd ty
  refine ⟨w', h1, ?_, h3⟩
  rw [show kDel d (VS.map volF) = (aDel d VS).map volF from kDel_map (fun q : VolD × Value => Value.agg (VolVA q.1 q.2)) d VS] at h2
  exact h2
theorem Tryz.info36 : (Tryz.prog.info? 36).map (fun i => (i.zero, i.size, i.bytes)) = some (some (.agg #[.int .i64 0, .int .i64 0, .int .i64 0, .slice none 0 0]), 4, 48) := by kernel_rfl
theorem Tryz.underlying29 : Tryz.prog.underlying 29 = some (.slice 36) := by kernel_rfl
theorem oneCell_vol (a b c : Int) (av : Option Addr) (n cv : Nat) : ∀ u, u ∈ [Value.int .i64 a, .int .i64 b, .int .i64 c, .slice av n cv] → u.oneCell' = true := by
  intro u hu
  simp only [List.mem_cons, List.not_mem_nil, or_false] at hu
  rcases hu with rfl | rfl | rfl | rfl <;> rfl
set_option maxHeartbeats 4000000 in
set_option maxRecDepth 20000 in
theorem itake {I : Ib} {x : Ix} (hf : Fit x) (ids : List Int) (iv : Value) (B : Nat) (w : World) (h : IxAt I w x) (hids : SliceAt B w iv 1 ids.length (ids.map (Value.int .i64))) (hz : ids.length ≤ 1000) (hw : ∀ d ∈ ids, (Lit.int .i64 d).wf = true) (hBv : ∀ g, iv.ownBlock = some g → g ≠ I.v) :
    Calls Tryz.prog 33 #[I.p, iv] w fun e w' => ∃ (vls : List (VolD × Value)) (av : Option Addr) (cv : Nat), e = .returned (.slice av ids.length cv) ∧ vls.map (·.1) = (takeL ids x.V).1 ∧ w'.ownsRow w.heap.size 36 4 (.slice av ids.length cv) ids.length (vls.flatMap volC) ∧ (∀ q ∈ vls, LocsT I.X w' q.2 q.1.locs) ∧ IxAt I w' { x with V := (takeL ids x.V).2 } ∧ Kp [I.v] w w' := by
  obtain ⟨VS, hVS, hm, hls⟩ := h.vols
  have hkV := hf.kV hVS
  obtain ⟨ia, ic, rfl⟩ := slice_ex hids
  obtain ⟨c0, c1, c2, c3, c4⟩ := h.cells
  have ap := Ib.apart h.apart
  have d2 := Kp.cellAt (X := [I.v]) c2 (by simp [ap.bv])
  have hK := Kp.refl [I.v] w
  have hlt' := h.lts
  have hO : w.ownsRow w.heap.size 36 4 (.slice none 0 0) 0 [] := ⟨rfl, .inl ⟨rfl, rfl⟩⟩
  obtain ⟨i0, hi, hz0, hz1, hz2⟩ := info_parts Tryz.info36
  have hmem0 : ∀ p ∈ VS, p ∈ VS := fun _ h => h
  have hacc0 : (takeL ids (VS.map volP)) = takeL ids x.V := by rw [← hVS]
  go_enter Tryz.func33, Tryz.ntmps33
  go_wp2_with fail
  go_loopg [5, 10] ids.length (fun g o i wr => ∃ (n : Nat) (VSn : List (Int × VolD × Value)) (vls : List (VolD × Value)) (av : Option Addr) (cv : Nat), n + g = ids.length ∧ i = .int .i64 n ∧ o = .slice av n cv ∧ Kp [I.v] w wr ∧ MapK (Value.int .i64) wr I.v (VSn.map volF) ∧ (∀ p ∈ VSn, p ∈ VS) ∧ wr.ownsRow w.heap.size 36 4 (.slice av n cv) n (vls.flatMap volC) ∧ (∀ q ∈ vls, LocsT I.X w q.2 q.1.locs) ∧ vls.map (·.1) ++ (takeL (ids.drop n) (VSn.map volP)).1 = (takeL ids x.V).1 ∧ (takeL (ids.drop n) (VSn.map volP)).2 = (takeL ids x.V).2)
  case atStart => exact ⟨0, VS, [], none, 0, by omega, rfl, rfl, hK, hm, hmem0, hO, by simp, by rw [List.drop_zero, hacc0]; rfl, by rw [List.drop_zero, hacc0]⟩
  case round =>
    clear hK hO
    obtain ⟨n, VSn, vls, av, cv, hn, rfl, rfl, hK, hmn, hmem, hO, hql, ha1, ha2⟩ := hrel
    have HN := Lib.hid hn
    have hkn : ∀ p ∈ VSn.map volF, (Lit.int .i64 p.1).wf = true := fun p hp => by
      obtain ⟨q, hq, rfl⟩ := List.mem_map.1 hp
      exact hkV _ (List.mem_map.2 ⟨q, hmem q hq, rfl⟩)
    by_cases hlt : n < ids.length
    · obtain ⟨g', rfl⟩ : ∃ g', gk = g' + 1 := ⟨gk - 1, by omega⟩
      clear hn
      have hltI : (n : Int) < (ids.length : Int) := by omega
      have hdw := hw ids[n] (List.getElem_mem _)
      have hdr : ids.drop n = ids[n] :: ids.drop (n + 1) := List.drop_eq_getElem_cons hlt
      rw [hdr] at ha1 ha2
      obtain ⟨g, o, rfl, hc, -, hb, hcell⟩ := hids.cells (by omega)
      have e0 := hcell n (.int .i64 ids[n]) (by rw [List.getElem?_map, List.getElem?_eq_getElem hlt]; rfl)
      have e1 := Kp.cellAt (X := [I.v]) e0 (by simpa using hBv g rfl) wr hK
      obtain ⟨d, hd⟩ : ∃ d, d = ids[n] := ⟨_, rfl⟩
      rw [← hd] at hdw ha1 ha2 e1
      obtain ⟨⟨⟨x0, x1, x2, ls⟩, lv⟩, hq⟩ : ∃ q, q = vgetS d VSn := ⟨_, rfl⟩
      have l1 := look_volK hmn hkn hdw
      have hlq : LocsT I.X w lv ls := by
        have : LocsT I.X w (vgetS d VSn).2 (vgetS d VSn).1.locs := by
          unfold vgetS
          cases hg : aGet d VSn with
          | none => exact ⟨⟨none, 0, rfl, fun h => absurd h (by decide)⟩, fun _ _ h => absurd h (by decide)⟩
          | some q => exact hls _ (hmem _ (aGet_mem hg))
        rw [← hq] at this
        exact this
      rw [← hq] at l1
      simp only [VolVA] at l1
      obtain ⟨la, lc, rfl⟩ := slice_ex hlq.1.at
      have c2' := d2 wr hK
      have HA1 := Lib.hid ha1
      have HA2 := Lib.hid ha2
      have HQ := Lib.hid hq
      have HD := Lib.hid hd
      have HO := Lib.hid hO
      have hge := own_block_ge hO
      clear ha1 ha2 hq hd hO e0 hdr
      have hltv := hlt
      go_wp2_with (first | (at_builtin; refine wpList_append_mine _ rfl (.tmp 14) (.tmp 21) 29 rfl w.heap.size 36 i0 (.agg #[.int .i64 0, .int .i64 0, .int .i64 0, .slice none 0 0]) 4 48 Tryz.underlying29 hi hz0 hz1 hz2 rfl (by decide) (.slice av n cv) n (vls.flatMap volC) rfl (ownsRow_keep (X := []) HO.out ((Kp.refl _ wr).alloc _) (fun _ _ => by simp)) ⟨wr.heap.size, 0, none⟩ 1 1 [.int .i64 x0, .int .i64 x1, .int .i64 x2, .slice la ls.length lc] rfl rfl (new_cells wr _ _) (oneCell_vol _ _ _ _ _ _) (by unfold maxLen; omega) (by omega) (by have := hK.size; simp; omega) ?_))
      intro v' w3 hown' hkp _ _
      obtain ⟨av', cv', rfl⟩ := ownsRow_ex hown'
      have k3 : Kp (Value.slice av n cv).ownBlock.toList wr w3 := ((Kp.refl _ wr).alloc _).trans hkp
      have hx : ∀ i, i < w.heap.size → i ∉ (Value.slice av n cv).ownBlock.toList := fun i hi hm => by
        simp only [Option.mem_toList] at hm
        have := hge _ hm; omega
      have hv0 := hlt' _ I.mem.2.2.2.1
      have hm3 := hmn.keep k3 (hx _ hv0)
      have hK3 : Kp [I.v] w w3 := hK.step k3 (fun i hi hm => absurd hm (hx i hi))
      have c3' := d2 w3 hK3
      obtain ⟨w4, hr4, hm4, k4⟩ := drop_volK hm3 hkn hdw 0
      have hK4 : Kp [I.v] w w4 := hK3.trans k4
      have hO4 := ownsRow_keep hown' k4 (fun i hi => by simp; omega)
      have hnews : List.flatMap volC vls ++ [.int .i64 x0, .int .i64 x1, .int .i64 x2, .slice la ls.length lc] = (vls ++ [((⟨x0, x1, x2, ls⟩ : VolD), Value.slice la ls.length lc)]).flatMap volC := by simp [volC]
      rw [hnews] at hO4
      clear hkp hown' k3 hge hmn hm3 hnews
      go_wp2_with fail
      go_roundg g'
      case rel =>
        refine ⟨n + 1, aDel d VSn, vls ++ [(⟨x0, x1, x2, ls⟩, .slice la ls.length lc)], av', cv', st_next HN.out, by go_num, rfl, hK4, hm4, fun p hp => hmem p (aDel_mem hp), hO4, fun q hq => ?_, ?_, ?_⟩
        · rcases List.mem_append.1 hq with hq | hq
          · exact hql q hq
          · rw [List.mem_singleton] at hq
            subst hq
            exact hlq
        · have h1 := HA1.out
          simp only [takeL] at h1
          rw [List.map_append, adel_S, List.append_assoc]
          rw [← h1, ← vget_S, ← HQ.out]
          rfl
        · have h2 := HA2.out
          simp only [takeL] at h2
          rw [adel_S]
          exact h2
      case measure => omega
    · obtain rfl : n = ids.length := by omega
      obtain rfl : gk = 0 := by omega
      rw [List.drop_length] at ha1 ha2
      simp only [takeL, List.append_nil] at ha1 ha2
      have hv : VolsIn I.X wr I.v (takeL ids x.V).2 := ⟨VSn, ha2, hmn, fun p hp => (hls p (hmem p hp)).keep hK (fun i hi _ => by simp only [List.mem_singleton] at hi; subst hi; exact I.mem.2.2.2.1)⟩
      have hat := h.withV hK hv
      have hql2 : ∀ q ∈ vls, LocsT I.X wr q.2 q.1.locs := fun q hq => (hql q hq).keep hK (fun i hi _ => by simp only [List.mem_singleton] at hi; subst hi; exact I.mem.2.2.2.1)
      have HO := Lib.hid hO
      have HA1 := Lib.hid ha1
      have HQ := Lib.hid hql2
      have HAT := Lib.hid hat
      have HK := Lib.hid hK
      clear hn ha1 ha2 hql2 hat
      go_wp2_with fail
      go_ret
      exact ⟨vls, av, cv, rfl, HA1.out, HO.out, HQ.out, HAT.out, HK.out⟩
end Go.Proofs.YtdhhddifmkijhaaGreat

namespace Go.Proofs.YtdhhddifmkijhaaGreat
open Go.RowKit Go.ChangeMaps Go.Maps Go.WideShapes Go.WideMaps Go.WideElems Go.MapKept Go.ChangeShapes

section
variable {P : Program} {α β : Type} {enc : α → Value} {kt : TypeId} {ok : α → Prop}
/-- how an element reads: by dec, as a token -/
def rDec (dec : Value → Option β) (v : Value) : Option (DataW β × List MemPlace) := (dec v).map fun y => (.held y, [])
/-- the key's literal -/
def litOf (P : Program) (kt : TypeId) (v : Value) : Lit := (keyOf P kt v).getD (.bool false)
def datOf (P : Program) (kt : TypeId) (enc : α → Value) (l : List (α × β)) : DataW β := .map ((l.map fun p => (litOf P kt (enc p.1), DataW.held p.2)).foldr DataW.insert [])
theorem MapK.owns (K : Encs P kt enc ok) {dec : Value → Option β} {ev : β → Value} (hd : ∀ y, dec (ev y) = some y) {w : World} {b : Nat} {l : List (α × β)} (h : MapK enc w b (l.map fun p => (p.1, ev p.2))) (hk : ∀ p ∈ l, ok p.1) (hz : l.length ≤ 1000) :
    w.ownsMap P kt (rDec dec) b l.length (datOf P kt enc l) := by
  obtain ⟨es, clock, hb, he, hc, hbn, hnd⟩ := h
  have hlen : es.size = l.length := by
    have := congrArg List.length he
    simpa using this
  have hat : ∀ x ∈ es.toList, ∃ p ∈ l, x.key = enc p.1 ∧ x.val = ev p.2 := by
    intro x hx
    have h1 : (x.key, x.val) ∈ es.toList.map (fun e => (e.key, e.val)) := List.mem_map.2 ⟨x, hx, rfl⟩
    rw [he, List.map_map] at h1
    obtain ⟨p, hp, e2⟩ := List.mem_map.1 h1
    simp only [Function.comp, Prod.mk.injEq] at e2
    exact ⟨p, hp, e2.1.symm, e2.2.symm⟩
  have hrg : ∀ (a : α) (y : β) (bn : Nat), ok a → WideElems.rd P kt (rDec dec) ⟨enc a, ev y, bn⟩ = some (litOf P kt (enc a), .held y) := by
    intro a y bn ha
    obtain ⟨lk, hlk⟩ := K.reads a ha
    simp [WideElems.rd, hlk, rDec, hd, litOf]
  refine ⟨es, clock, hb, ⟨by unfold maxLen; omega, ⟨hc, hbn, ?_⟩, fun x hx => ?_⟩, by omega, ?_⟩
  · have hkeys : es.toList.map (·.key) = l.map (fun p => enc p.1) := by
      have := congrArg (List.map Prod.fst) he
      rw [List.map_map, List.map_map, List.map_map] at this
      exact this
    rw [hkeys]
    rw [List.map_map] at hnd
    refine (List.pairwise_map.2 ?_)
    refine (List.pairwise_map.1 hnd).imp fun {p q} hne e => hne (K.inj _ _ e)
  · obtain ⟨p, hp, e1, e2⟩ := hat x hx
    obtain ⟨xk, xv, xb⟩ := x
    simp only at e1 e2
    subst e1; subst e2
    exact ⟨_, hrg p.1 p.2 xb (hk p hp)⟩
  · unfold datOf
    congr 2
    obtain ⟨G, hG⟩ : ∃ G : Value × Value → Lit × DataW β, ∀ x : MapEntry, WideElems.rg P kt (rDec dec) x = G (x.key, x.val) := ⟨fun q => WideElems.rg P kt (rDec dec) ⟨q.1, q.2, 0⟩, fun x => rfl⟩
    have h1 : es.toList.map (WideElems.rg P kt (rDec dec)) = (es.toList.map (fun e => (e.key, e.val))).map G := by
      rw [List.map_map]; exact List.map_congr_left fun x _ => hG x
    rw [h1, he, List.map_map, List.map_map]
    refine List.map_congr_left fun p hp => ?_
    simp only [Function.comp]
    have h2 := hG ⟨enc p.1, ev p.2, 0⟩
    simp only at h2
    rw [← h2]
    exact (WideElems.rg_of (hrg p.1 p.2 0 (hk p hp))).symm
theorem datOf_size (l : List (α × β)) : Maps.size (datOf P kt enc l) = l.length := by
  unfold datOf
  rw [Maps.size_eq, length_sorted, List.length_map]
theorem mem_insert {H : Type} (x p : Lit × DataW H) : ∀ l : List (Lit × DataW H), p ∈ DataW.insert x l ↔ p = x ∨ p ∈ l
  | [] => by simp [DataW.insert]
  | y :: r => by
    unfold DataW.insert
    split
    · simp
    · simp only [List.mem_cons, mem_insert x p r]
      constructor
      · rintro (h | h | h)
        · exact .inr (.inl h)
        · exact .inl h
        · exact .inr (.inr h)
      · rintro (h | h | h)
        · exact .inr (.inl h)
        · exact .inl h
        · exact .inr (.inr h)
theorem mem_sorted {H : Type} (p : Lit × DataW H) : ∀ l : List (Lit × DataW H), p ∈ l.foldr DataW.insert [] ↔ p ∈ l
  | [] => by simp
  | y :: r => by rw [List.foldr_cons, mem_insert, mem_sorted p r, List.mem_cons]
theorem datOf_has (l : List (α × β)) (k : Lit) : Maps.has (datOf P kt enc l) k = true ↔ ∃ p ∈ l, (litOf P kt (enc p.1)).sameKey k = true := by
  unfold datOf
  rw [Maps.has_eq, List.any_eq_true]
  constructor
  · rintro ⟨q, hq, h⟩
    rw [mem_sorted] at hq
    obtain ⟨p, hp, rfl⟩ := List.mem_map.1 hq
    exact ⟨p, hp, h⟩
  · rintro ⟨p, hp, h⟩
    exact ⟨_, (mem_sorted _ _).2 (List.mem_map.2 ⟨p, hp, rfl⟩), h⟩
theorem datOf_at {l : List (α × β)} {k : Lit} {y : β} (h : ∀ zd, (datOf P kt enc l).atKey k zd = .held y) : ∃ p ∈ l, (litOf P kt (enc p.1)).sameKey k = true ∧ p.2 = y := by
  have h1 := h .nil
  unfold datOf DataW.atKey at h1
  simp only at h1
  split at h1
  · rename_i q hq
    have h2 := List.mem_of_find?_eq_some hq
    have h3 := List.find?_some hq
    rw [mem_sorted] at h2
    obtain ⟨p, hp, rfl⟩ := List.mem_map.1 h2
    refine ⟨p, hp, h3, ?_⟩
    simpa using h1
  · cases h1
end
end Go.Proofs.YtdhhddifmkijhaaGreat
