/- Contract of leave.Fold. -/
import Derived.Test.YtkbpdbfldijeeaaDoorStS
import Derived.Test.YtkbpdbfldijeeaaDoorDe
import Derived.Test.YtkbpdbfldijeeaaDoorCk
import Derived.Test.YtkbpdbfldijeeaaDoorFd
namespace Go.Proofs.YtkbpdbfldijeeaaDoor
open Go.RowKit Go.Sort Go.BigFrame

/-- A deed as the row holds it. -/
def elOf (fb fv : Nat) (x : De) : El := match x.op with
  | .turn => (x.day, .func 34, #[.pointer (some ⟨fb, 0, none⟩)], #[])
  | .lose => (x.day, .func 36, #[.pointer (some ⟨fb, 0, none⟩)], #[])
  | .move _ _ => (x.day, .func 20, #[], #[.pointer (some ⟨fv, 0, none⟩), .pointer (some ⟨x.mb, 0, none⟩)])
theorem elOf_day (fb fv : Nat) (x : De) : (elOf fb fv x).1 = x.day := by unfold elOf; split <;> rfl
theorem elOf_lt (fb fv : Nat) (x y : De) : lt (elOf fb fv x) (elOf fb fv y) = ltD x y := by unfold lt ltD; rw [elOf_day, elOf_day]
theorem yearsEl_of (fb fv : Nat) (ex yr : Int) (k : Nat) : yearsEl fb ex yr k = (yearsDe ex yr k).map (elOf fb fv) := by
  unfold yearsEl yearsDe yearsOps
  rw [List.map_map, List.map_flatMap]
  congr 1
  funext i
  unfold yearEl yearOps
  split <;> rfl
/-- A move's block, where a deed is one. -/
def Lies (x : De) (w : World) : Prop := match x.op with
  | .move gr tk => Bk x.mb 42 #[.int .i64 x.day, .int .i64 gr, .int .i64 tk] w
  | _ => True
theorem Lies.kept {x : De} {w w' : World} {r : Option Nat} (h : Lies x w) (hg : w.grownBy w' r) (hr : ∀ cs, Bk x.mb 42 cs w → some x.mb ≠ r) : Lies x w' := by
  unfold Lies at h ⊢
  split at h
  · exact h.grownBy hg (hr _ h)
  · trivial

set_option maxHeartbeats 1000000 in
theorem lv_Fold_no (yr ca ex un : Int) (l : List Mv) (A : Option Addr) (cap : Nat) (w : World) (hl : l.length ≤ 9223372036854775807) (hun : -9223372036854775808 ≤ un ∧ un ≤ 9223372036854775807) (hdy : ∀ x ∈ l, -9223372036854775808 ≤ x.1 ∧ x.1 ≤ 9223372036854775807)
    (ht : Tab w) (hs : Sl encM 3 w w.heap.size A l) (he : chkV yr ca ex un l ≠ 0) :
    Calls Tryd.prog 10 #[.agg #[.int .i64 yr, .int .i64 ca, .int .i64 ex], .int .i64 un, .slice A l.length cap] w fun e w' =>
      e = .returned (.tuple #[.agg #[.int .i64 0, .int .i64 0, .int .i64 0, .int .i64 0], .int .i64 (chkV yr ca ex un l)]) ∧ Below w.heap.size w w' := by
  have g0 : ∀ o o', Grows w ((w.alloc o).alloc o') := fun o o' => (Grows.of_alloc _ _).trans (.of_alloc _ _)
  have HC := Lib.hid (fun o o' => lv_check yr ca ex un l A cap ((w.alloc o).alloc o') hl hun hdy (ht.grows (g0 o o')) ((hs.grows (g0 o o') (Nat.le_refl _)).more (g0 o o').size))
  clear hs hdy
  have he1 : (chkV yr ca ex un l != 0) = true := by simpa using he
  generalize chkV yr ca ex un l = c at *
  clear he
  go_enter Tryd.func10, Tryd.ntmps10
  go_wp2_with fail
  refine (HC.out _ _).mono ?_
  rintro e w1 ⟨rfl, hg⟩
  have hR : Bk (w.heap.size + 1) 28 #[.int .i64 0, .int .i64 0, .int .i64 0, .int .i64 0] w1 := by
    have h := Bk.new (w.alloc (.cells #[.int .i64 yr, .int .i64 ca, .int .i64 ex] 23)) 28 #[.int .i64 0, .int .i64 0, .int .i64 0, .int .i64 0]
    have e : (w.alloc (.cells #[.int .i64 yr, .int .i64 ca, .int .i64 ex] 23)).heap.size = w.heap.size + 1 := by simp
    rw [e] at h
    exact h.grows hg
  have gw := (g0 _ _).trans hg
  obtain ⟨rb, hrb⟩ : ∃ x, w.heap.size + 1 = x := ⟨_, rfl⟩
  have hrs : w.heap.size ≤ rb := by omega
  rw [hrb] at hR ⊢
  have r0 : w1.cell? ⟨rb, 0, none⟩ = some (.int .i64 0) := hR.cell 0
  have r1 : w1.cell? ⟨rb, 1, none⟩ = some (.int .i64 0) := hR.cell 1
  have r2 : w1.cell? ⟨rb, 2, none⟩ = some (.int .i64 0) := hR.cell 2
  have r3 : w1.cell? ⟨rb, 3, none⟩ = some (.int .i64 0) := hR.cell 3
  have f0 : w1.frozen? ⟨rb, 0, none⟩ = false := hR.frozen 0
  have f1 : w1.frozen? ⟨rb, 1, none⟩ = false := hR.frozen 1
  have f2 : w1.frozen? ⟨rb, 2, none⟩ = false := hR.frozen 2
  have f3 : w1.frozen? ⟨rb, 3, none⟩ = false := hR.frozen 3
  have HR := Lib.hid hR
  clear hR hrb hg HC g0
  go_wp2
  have hz := (((HR.out.set_ 0 (.int .i64 0)).set_ 1 (.int .i64 0)).set_ 2 (.int .i64 0)).set_ 3 (.int .i64 0)
  have gz := ((((gw.setCell (p := ⟨rb, 0, none⟩) hrs (.int .i64 0)).setCell (p := ⟨rb, 1, none⟩) hrs (.int .i64 0)).setCell (p := ⟨rb, 2, none⟩) hrs (.int .i64 0)).setCell (p := ⟨rb, 3, none⟩) hrs (.int .i64 0)).below
  clear r0 r1 r2 r3 f0 f1 f2 f3 HR gw
  generalize (((w1.setCell ⟨rb, 0, none⟩ (.int .i64 0)).setCell ⟨rb, 1, none⟩ (.int .i64 0)).setCell ⟨rb, 2, none⟩ (.int .i64 0)).setCell ⟨rb, 3, none⟩ (.int .i64 0) = wz at *
  have z0 : wz.cell? ⟨rb, 0, none⟩ = some (.int .i64 0) := hz.cell 0
  have z1 : wz.cell? ⟨rb, 1, none⟩ = some (.int .i64 0) := hz.cell 1
  have z2 : wz.cell? ⟨rb, 2, none⟩ = some (.int .i64 0) := hz.cell 2
  have z3 : wz.cell? ⟨rb, 3, none⟩ = some (.int .i64 0) := hz.cell 3
  exact bodyPost_ret (v := .tuple #[.agg #[.int .i64 0, .int .i64 0, .int .i64 0, .int .i64 0], .int .i64 c]) (by simp [results, Tryd.results10, go_sem, z0, z1, z2, z3]) rfl ⟨rfl, gz⟩
end Go.Proofs.YtkbpdbfldijeeaaDoor
