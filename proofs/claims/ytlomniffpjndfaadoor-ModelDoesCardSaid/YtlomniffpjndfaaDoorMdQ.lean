/-
  Requests that came in; a model behind a row of requests.
-/
import Derived.Test.YtlomniffpjndfaaDoorP6
import Derived.Lib.LaidU8
import Derived.Test.YtlomniffpjndfaaDoorTie
import Derived.Test.YtlomniffpjndfaaDoorCards
namespace Go.Proofs.YtlomniffpjndfaaDoor
open Go.ChangeShapes Go.WideShapes Go.ChangeAt Go.RowKit Go.WideElems

theorem tabIs_of_reads {P : Program} {W : World} {name : String} {k : IntKind} {zs : List Int} {g : Nat} {t e : TypeId} {n : Nat}
    (hg : P.globalNamed name = some g) (hty : (P.globals[g]?).map (·.type) = some t) (ht : P.underlying t = some (.array n e)) (he : P.underlying e = some (.int k)) (hce : P.cellsOf e = 1) (hct : P.cellsOf t = n)
    (h : Lib.VarReads P W name (Lib.tabData k zs)) : Lib.TabIs P W name k zs := by
  obtain ⟨g', t', cs, fuel, p, hg', ht', hvar, hd⟩ := h
  obtain rfl := Option.some.inj (hg.symm.trans hg')
  obtain rfl := Option.some.inj (hty.symm.trans ht')
  unfold Lib.TabIs
  rw [hvar, ← Lib.cells_of_tab ht he hce hct hd]
def laidAll : List (String × DataW Unit) := [("math/bits.deBruijn32tab", Rows.laid_math_bits_deBruijn32tab), ("math/bits.deBruijn64tab", Rows.laid_math_bits_deBruijn64tab), ("internal/strconv.uint64pow10", Rows.laid_internal_strconv_uint64pow10)]
theorem tab_of_laid {W : World} (h : laidMetH Tryd.prog laidAll W) : Lib.TabIs Tryd.prog W "internal/strconv.uint64pow10" .u64 Lib.pow10Tab := by
  rw [MakeChecks.laidMetH_plain _ _ _ (by kernel_rfl)] at h
  have h1 := Lib.laidMet.reads h (n := "internal/strconv.uint64pow10") (d := Rows.laid_internal_strconv_uint64pow10) (.tail _ (.tail _ (.head _)))
  have e : (Rows.laid_internal_strconv_uint64pow10 : DataW Unit) = Lib.tabData .u64 Lib.pow10Tab := rfl
  rw [e] at h1
  exact tabIs_of_reads (g := 0) (t := 141) (e := 112) (n := 20) (by kernel_rfl) (by kernel_rfl) (by kernel_rfl) (by kernel_rfl) (by kernel_rfl) (by kernel_rfl) h1
structure RqD where
  kind : Int
  key : ByteArray
  val : ByteArray
instance : Inhabited RqD := ⟨⟨0, E0, E0⟩⟩
def RqC (q : RqD) : List Value := [.int .i64 q.kind, .string q.key, .string q.val]
theorem rqC_len (q : RqD) : (RqC q).length = 3 := rfl
theorem one_req : Tryd.prog.cellsOf 32 = 3 := by kernel_rfl
set_option maxRecDepth 100000 in
theorem req_of {W : World} {cs : List Value} (h : Rd Tryd.prog W 32 cs) : ∃ q : RqD, cs = RqC q := by
  obtain ⟨hl, hf⟩ := rd_struct Tryd.underlying32 h
  have h1 : Tryd.prog.cellsOf 3 = 1 := by kernel_rfl
  have h2 : Tryd.prog.cellsOf 9 = 1 := by kernel_rfl
  rw [one_req] at hl
  match cs, hl with
  | [a, b, c], _ =>
    have f0 : Rd Tryd.prog W 3 (([a, b, c].drop 0).take (Tryd.prog.cellsOf 3)) := hf 0 _ rfl
    have f1 : Rd Tryd.prog W 9 (([a, b, c].drop 1).take (Tryd.prog.cellsOf 9)) := hf 1 _ rfl
    have f2 : Rd Tryd.prog W 9 (([a, b, c].drop 2).take (Tryd.prog.cellsOf 9)) := hf 2 _ rfl
    rw [h1] at f0
    rw [h2] at f1 f2
    change Rd Tryd.prog W 3 [a] at f0
    change Rd Tryd.prog W 9 [b] at f1
    change Rd Tryd.prog W 9 [c] at f2
    obtain ⟨kd, e0, -⟩ := rd_int Tryd.underlying3 f0
    obtain ⟨k, e1, -⟩ := rd_string Tryd.underlying9 f1
    obtain ⟨v, e2, -⟩ := rd_string Tryd.underlying9 f2
    simp only [List.cons.injEq, and_true] at e0 e1 e2
    subst e0 e1 e2
    exact ⟨⟨kd, k, v⟩, rfl⟩
set_option maxRecDepth 100000 in
theorem req_arg {W : World} {base : Nat} {v : Value} (hok : Value.okWide Tryd.prog W .any base 32 v) (h : Rd Tryd.prog W 32 v.cells.toList) : ∃ kd k u, v = ReqV kd k u := by
  obtain ⟨cs, rfl, -⟩ := okWide_struct Tryd.underlying32 hok
  obtain ⟨⟨kd, k, u⟩, e⟩ := req_of h
  refine ⟨kd, k, u, ?_⟩
  have e' : cs.toList = [.int .i64 kd, .string k, .string u] := e
  rw [← Array.toArray_toList (xs := cs), e']
set_option maxRecDepth 100000 in
theorem str_arg {W : World} {base : Nat} {v : Value} (hok : Value.okWide Tryd.prog W .any base 9 v) : ∃ s, v = .string s := by
  exact okWide_string Tryd.underlying9 hok
set_option maxRecDepth 100000 in
theorem errno_arg {W : World} {base : Nat} {v : Value} (hok : Value.okWide Tryd.prog W .any base 34 v) : ∃ n, v = .int .i64 n := by
  exact okWide_int Tryd.underlying34 hok
/-- requests that can be read -/
def ReqsAt (B : Nat) (w : World) (v : Value) (rs : List RqD) : Prop := SliceAt B w v 3 rs.length (rs.flatMap RqC)
theorem ReqsAt.keep0 {B : Nat} {w w' : World} {v : Value} {rs : List RqD} (h : ReqsAt B w v rs) (k : Kp [] w w') : ReqsAt B w' v rs := SliceAt.keep0 h k
set_option maxRecDepth 100000 in
theorem reqs_arg {W : World} {v : Value} {base : Nat} (hok : Value.okWide Tryd.prog W .any base 22 v) (h : Rd Tryd.prog W 22 v.cells.toList) : ∃ rs : List RqD, ReqsAt W.heap.size W v rs := by
  obtain ⟨av, l, c, rfl, -⟩ := okWide_slice Tryd.underlying22 hok
  obtain ⟨xs, v, e, hs, -⟩ := rd_list Tryd.underlying22 h RqC 3 one_req (by decide) rqC_len (fun _ => True) (fun es he => by
    obtain ⟨q, e⟩ := req_of he
    exact ⟨q, e, trivial⟩)
  have e1 : Value.slice av l c = v := by
    have : [Value.slice av l c] = [v] := e
    simpa using this
  subst e1
  exact ⟨xs, hs⟩
/-- the cells of request i -/
theorem req_at {B : Nat} {w : World} {v : Value} {rs : List RqD} (h : ReqsAt B w v rs) (i : Nat) (hi : i < rs.length) :
    ∃ g o c, v = .slice (some ⟨g, o, none⟩) rs.length c ∧ w.cell? ⟨g, o + i * 3, none⟩ = some (.int .i64 rs[i].kind) ∧ w.cell? ⟨g, o + i * 3 + 1, none⟩ = some (.string rs[i].key) ∧ w.cell? ⟨g, o + i * 3 + 2, none⟩ = some (.string rs[i].val) := by
  obtain ⟨av, cap, rfl⟩ := slice_ex h
  obtain ⟨g, o, rfl, hc, -, hb, hcell⟩ := SliceAt.cells h (by omega)
  have hp := fun r hr => flat_at RqC 3 rqC_len rs i r hi hr
  refine ⟨g, o, cap, rfl, hcell (i * 3 + 0) _ (hp 0 (by decide)), ?_, ?_⟩
  all_goals rw [Nat.add_assoc]
  · exact hcell (i * 3 + 1) _ (hp 1 (by decide))
  · exact hcell (i * 3 + 2) _ (hp 2 (by decide))
/-- a model behind requests -/
def Mdl.step (M : Mdl) (q : RqD) : Mdl := M.after q.kind q.key q.val
def Mdl.run (rs : List RqD) : Mdl := rs.foldl Mdl.step []
theorem run_snoc (l : List RqD) (q : RqD) : Mdl.run (l ++ [q]) = (Mdl.run l).step q := by unfold Mdl.run; rw [List.foldl_append]; rfl
theorem run_short (l : List RqD) : Short (Mdl.run l) := by
  have : ∀ (l : List RqD) (M : Mdl), Short M → Short (l.foldl Mdl.step M) := by
    intro l
    induction l with
    | nil => exact fun M h => h
    | cons q l ih => exact fun M h => ih _ (after_short h _ _ _)
  exact this l [] sh0
theorem run_len (l : List RqD) : (Mdl.run l).length ≤ l.length := by
  have : ∀ (l : List RqD) (M : Mdl), (l.foldl Mdl.step M).length ≤ M.length + l.length := by
    intro l
    induction l with
    | nil => exact fun M => Nat.le_refl _
    | cons q l ih =>
      intro M
      have h1 := ih (M.step q)
      have h2 := after_len M q.kind q.key q.val
      have : (M.step q).length ≤ M.length + 1 := h2
      simp only [List.foldl_cons, List.length_cons] at h1 ⊢
      omega
  have := this l []
  simpa [Mdl.run] using this
theorem run_take (l : List RqD) (n : Nat) : (Mdl.run (l.take n)).length ≤ l.length := Nat.le_trans (run_len _) (by rw [List.length_take]; omega)
theorem run_next {l : List RqD} {n : Nat} (h : n < l.length) : Mdl.run (l.take (n + 1)) = (Mdl.run (l.take n)).step l[n] := by
  rw [List.take_succ_eq_append_getElem h, run_snoc]
theorem small_q {k v : ByteArray} (h : smallQ k v = true) : k.size < 16384 ∧ v.size < 16384 := by
  unfold smallQ at h
  simp only [Bool.and_eq_true, decide_eq_true_eq] at h
  omega
theorem mdoq {f : ByteArray → ByteArray} (hf : SumOk f) {mb eb : Nat} {M : Mdl} (hs : Short M) (hz : M.length ≤ 1000) (kind : Int) (k v : ByteArray) (hk : k.size < 16384) (hv : v.size < 16384) (w : World) (h : MdAt mb eb w M) (htab : Lib.TabIs Tryd.prog w "internal/strconv.uint64pow10" .u64 Lib.pow10Tab) :
    Calls Tryd.prog 12 #[Md.p mb, .agg #[.int .i64 kind, .string k, .string v]] w fun e w' => ∃ av cv, e = .returned (.agg #[.int .i64 (M.answer f kind k v).code, .string (M.answer f kind k v).val, .slice av (M.answer f kind k v).keys.length cv]) ∧ Gave w.heap.size w' (.agg #[.int .i64 (M.answer f kind k v).code, .string (M.answer f kind k v).val, .slice av (M.answer f kind k v).keys.length cv]) (M.answer f kind k v) ∧ MdAt mb eb w' (M.after kind k v) ∧ Kp [eb] w w' := by
  refine (mdo hf hs hz kind k v hk hv w h htab).mono ?_
  rintro e w' ⟨x, rfl, ⟨av, cv, rfl, ho⟩, hM, kk⟩
  exact ⟨av, cv, rfl, ⟨av, cv, rfl, ho⟩, hM, kk⟩
theorem mdoq_nil (kind : Int) (k v : ByteArray) (w : World) : Calls Tryd.prog 12 #[.pointer none, .agg #[.int .i64 kind, .string k, .string v]] w fun e w' => e = .returned (.agg #[.int .i64 1, .string E0, .slice none 0 0]) ∧ Kp [] w w' := mdo_nil kind k v w
end Go.Proofs.YtlomniffpjndfaaDoor
