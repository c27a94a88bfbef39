/- From the row's listed variables, the world's shape and the arguments' sizes to what the walks ask; the wrap of a row that has them. -/
import Derived.Test.YtmngghglcgmkeaaGreatDoorRows
import Derived.Test.YtmngghglcgmkeaaGreatDoorOp9
import Derived.Test.YtmngghglcgmkeaaGreatDoorCivs
import Derived.Lib.LaidTab
import Derived.LaidMore
import Derived.ProofKit
import Derived.Handed
import Derived.Shelf.Vars
import Derived.Stop.Joined
import Derived.Stop.LaidErr
import Derived.Lay
import Derived.SizedLaws
namespace Go.Proofs.YtmngghglcgmkeaaGreatDoor
open Go.ChangeShapes Go.WideShapes Go.ChangeAt Go.RowKit Go.Deep

theorem gRange : Tryz.prog.globalNamed "strconv.ErrRange" = some 4 := by kernel_rfl
theorem gRangeT : (Tryz.prog.globals[4]?).map (·.type) = some 187 := by kernel_rfl
theorem starErr : "*" ++ "errors.errorString" = "*errors.errorString" := by decide
theorem rowErr (u : TypeId) (h : Tryz.prog.typeName? 3 u = some "*errors.errorString") : u = 256 :=
  typeName_ptr_named (nm := "errors.errorString") (by rw [starErr]; kernel_rfl) (by kernel_rfl) (by decide) u (by rw [starErr]; exact h)
theorem max_of_shape {W : World} (h : W.ShapedOpen Tryz.prog) : ∃ m, W.cell? ⟨2, 0, none⟩ = some (.int .i64 m) :=
  cell_of_shapedOpen_int (t := 3) (zero := #[.int .i64 0]) (k := .i64) h (of_decide_eq_true (by kernel_rfl)) (by kernel_rfl) rfl (by kernel_rfl) (by kernel_rfl) Tryz.underlying3
theorem err_of_laid {W : World} {l : List (String × DataW Unit)} (h : laidMet Tryz.prog (("strconv.ErrRange", Rows.laid_strconv_ErrRange) :: l) W) : ∃ ev, W.cell? ⟨4, 0, none⟩ = some ev ∧ (ev = .nilIface ∨ ∃ te pe, ev = .iface te pe) := by
  obtain ⟨a, s, hv, _, _, _⟩ := laid_sentinel h gRange gRangeT Tryz.underlying187 rowErr Tryz.underlying256 Tryz.underlying258 rfl rfl Tryz.underlying9 (by kernel_rfl) (by kernel_rfl)
  exact ⟨_, by simpa using World.var?_cell gRange hv 0, .inr ⟨_, _, rfl⟩⟩
abbrev laid16 : List (String × DataW Unit) := Rows.absentOverRow.laid
theorem monthData {H : Type} : (Rows.laid_wagebook_civil_lengths : DataW H) = Lib.tabData .i64 monthL := rfl
theorem gMonth : Tryz.prog.globalNamed "wagebook/civil.lengths" = some 0 := by kernel_rfl
theorem tb_of {W : World} (h : laidMetH Tryz.prog laid16 W) (hs : W.ShapedOpen Tryz.prog) : Tb W ∧ Tab W := by
  rw [MakeChecks.laidMetH_plain _ _ _ (by kernel_rfl)] at h
  have h1 : laidMet Tryz.prog (("math/bits.deBruijn32tab", Rows.laid_math_bits_deBruijn32tab) :: ("math/bits.deBruijn64tab", Rows.laid_math_bits_deBruijn64tab) :: ("internal/strconv.uint64pow10", Rows.laid_internal_strconv_uint64pow10) :: ("unicode/utf8.acceptRanges", Rows.laid_unicode_utf8_acceptRanges) :: ("wagebook/civil.lengths", Lib.tabData .i64 monthL) :: ("strconv.ErrRange", Rows.laid_strconv_ErrRange) :: ("strconv.ErrSyntax", Rows.laid_strconv_ErrSyntax) :: ("unicode/utf8.first", Rows.laid_unicode_utf8_first) :: []) W := h
  have hm := Lib.tabIs_of_head (g := 0) (t := 181) (e := 3) (n := 12) (by kernel_rfl) (by kernel_rfl) Tryz.underlying181 Tryz.underlying3 (by kernel_rfl) (by kernel_rfl) h1.tail.tail.tail.tail
  have hc : ∀ i : Nat, i < 12 → W.cell? ⟨0, i, none⟩ = some (.int .i64 (monthL.getD i 0)) := fun i hi => hm.cell gMonth i (by simpa [monthL] using hi)
  exact ⟨⟨max_of_shape hs, err_of_laid h1.tail.tail.tail.tail.tail⟩, ⟨cell_lt (hc 0 (by decide)), hc⟩⟩

/-- A world that holds what is laid. -/
theorem door_met (os : Os) (args : Array Value) : laidMetH Tryz.prog laid16 ((World.laidAll Tryz.prog os laid16).forCall (fun _ _ => 0) ⟨#[], args, []⟩).memory := by
  rw [MakeChecks.laidMetH_plain _ _ _ (by kernel_rfl)]
  exact laidMet_laidAll _ (by kernel_rfl) (by kernel_rfl)
/-- The wrap of a row whose contract is handed what is laid, and the world's shape. -/
theorem returns_laid_sized {H : Type} {enc : TypeId × Value → H} {a : Assume} {C : Checked} {os : Os} {f : FuncId} {fn : Func} {s : ChangeSpec} {conds : List PathCond} {apart fresh handsOn again : Bool} {X : World → Array Value → Prop}
    (hX : ∀ (w w' : World) (args : Array Value), w.heap = w'.heap → X w args → X w' args)
    (own : ownKnob C.prog.godebug = none) (started : os.Started) (noInit : C.prog.inits.idxOf? f = none) (hfn : C.prog.funcs[f]? = some fn)
    (witness : ∃ (w : World) (tape : Tape) (i : Input), w.os = os ∧ (w.forCall tape i).Shaped C.prog ∧ i.vars = [] ∧ Input.okWide C.prog (w.forCall tape i) .any w.heap.size f i ∧
      ((s.pre enc C.prog fn conds apart (w.forCall tape i).memory i.args ∧ X (w.forCall tape i).memory i.args) ∧ sizedMet enc C.prog fn (OpenSpec.ofChange s) apart (w.forCall tape i).memory i.args) ∧ a.holds C.prog (lone (Frame.enter C.prog f i.args .normal) [] (w.forCall tape i)))
    (contract : ∀ (W : World) (base : Nat) (args : Array Value) (ds gs : List (DataW H)) (before : List MemPlace),
      (∀ (j : Nat) t v, fn.params[j]? = some t → args[j]? = some v → Value.okWide C.prog W .any base t v) →
      DataW.Whole enc C.prog fn.params.toList s.vars apart W args.toList ds gs before → X W args → W.ShapedOpen C.prog → sizedMet enc C.prog fn (OpenSpec.ofChange s) apart W args →
      Calls C.prog f args W fun e W' => ∃ v, e = .returned v ∧ s.post enc C.prog fn apart fresh handsOn again W args v W') :
    ReturnsInHanded a C os f .any (fun w args => (s.pre enc C.prog fn conds apart w args ∧ X w args) ∧ sizedMet enc C.prog fn (OpenSpec.ofChange s) apart w args) (s.post enc C.prog fn apart fresh handsOn again) := by
  refine returnsInHanded_of_calls own started noInit witness fun w tape i _ hsh _ hok hpre _ => ?_
  obtain ⟨_, _, _, fn', hfn', _, _, _, _, hval⟩ := hok
  obtain rfl : fn' = fn := Option.some.inj (hfn'.symm.trans hfn)
  obtain ⟨⟨⟨ds, gs, before, hw, _⟩, hx⟩, hsz⟩ := hpre
  exact (contract (w.forCall tape i) w.heap.size i.args ds gs before hval (DataW.Whole.of_heap (w' := w.forCall tape i) (by rfl) hw) (hX _ _ _ (by rfl) hx) hsh (sizedMet.of_heap (w' := w.forCall tape i) (by rfl) hsz)).mono fun e W' ⟨v, he, hp⟩ => by
    subst he
    exact ChangeSpec.post_blind hp
section
variable {H : Type} {enc : TypeId × Value → H} {w : World} {spare : Nat → Bool} {held : Bool}
/-- How facts that came in are read. -/
theorem facts_data {A : Option Addr} {n cap : Nat} {d : DataW H} {p : List MemPlace} (h : DataW.Trod enc Tryz.prog w 0 spare held 22 (.slice A n cap) d p) (hn : n ≠ 0) : ∃ es sp, d = .slice es sp ∧ es.length = n := by
  obtain ⟨fuel, hf⟩ := h
  obtain ⟨f0, f1, f2, f3, f4, f5, f6, f7, he, hone, _⟩ := fieldsF
  rcases open_slice_fields Tryz.underlying22 he hone (by kernel_rfl) hf with ⟨hc, _⟩ | ⟨a, len', cap', m, D, Pl, hc, _, hl, hm, hmm, hx, hi⟩
  · simp [Value.cells] at hc
    exact absurd hc.2.1 hn
  · simp [Value.cells] at hc
    obtain ⟨rfl, rfl, rfl⟩ := hc
    injection hx with hx1 hx2
    exact ⟨_, _, hx1, by simp⟩
theorem facts_room {ts : List TypeId} {ds : List (DataW H)} (hwt : (DataW.weightsEach Tryz.prog ts ds).all (· ≤ reachBytes) = true) {j : Nat} (ht : ts[j]? = some 22) {A : Option Addr} {n cap : Nat} {d : DataW H} {p : List MemPlace} (hd : ds[j]? = some d) (h : DataW.Trod enc Tryz.prog w 0 spare held 22 (.slice A n cap) d p) : n * 72 ≤ 140737488351232 := by
  by_cases hn : n = 0
  · omega
  · obtain ⟨es, sp, rfl, rfl⟩ := facts_data h hn
    have hb := sized_slice hwt ht hd Tryz.underlying22
    rw [show Tryz.prog.bytesOf 26 = 72 by kernel_rfl, show reachBytes = 140737488351232 from rfl] at hb
    have : es.length * 72 ≤ (es.length + sp.length) * 72 := Nat.mul_le_mul_right _ (Nat.le_add_right _ _)
    omega
theorem okWide_array_ {P : Program} {w : World} {r : Reach} {base : Nat} {t e : TypeId} {n : Nat} {v : Value} (ht : P.underlying t = some (.array n e)) (h : Value.okWide P w r base t v) : ∃ cs, v = .agg cs ∧ cs.size = P.cellsOf t := by
  simp only [Value.okWide, ht] at h
  obtain ⟨cs, h1, h2, _⟩ := h
  exact ⟨cs, h1, h2⟩
end
end Go.Proofs.YtmngghglcgmkeaaGreatDoor
