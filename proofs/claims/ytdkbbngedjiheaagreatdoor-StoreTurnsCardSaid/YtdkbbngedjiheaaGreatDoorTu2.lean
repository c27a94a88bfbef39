import Derived.Test.YtdkbbngedjiheaaGreatDoorTu1
import Derived.Deep.DeepCutAuto
/- StoreTurns' region 2: the row of two facts, and the rule with its slots named. -/
namespace Go.Proofs.YtdkbbngedjiheaaGreatDoor
open Go.RowKit Go.Sort

theorem wp_region_putd {P : Program} {id : Nat} {ops : Array Oper} {Q : Exit → Act → World → Prop} {a0 : Act} {w0 : World} (SP : Nat → Value → World → Prop) (kl : Nat → Option Nat) (ds : List Nat) (hds : dsts2 ops = ds) (hm : P.follows .mixedOrders = true)
    (hst : ∀ t v w w', SP t v w → Below w.heap.size w w' → SP t v w') (he : earlier2 ops = true) (hsz : (ops.toList.all fun o => match o.dst with | some d => decide (d < a0.tmps.size) | none => true) = true)
    (h0 : ∀ t, noDst2 ops t = true → SP t (a0.tmps.getD t undef) w0)
    (hop : ∀ (i : Nat) (o : Oper), ops[i]? = some o → OpOk2 P .any ops Q SP kl a0 w0 i o)
    (hend : ∀ (vs : Nat → Value) w, Below w0.heap.size w0 w → (∀ t, kl t = none → SP t (vs t) w) → Q .normal (putAll vs ds a0) w) : (Code.region id ops true).wp P Q a0 w0 :=
  wp_region_put SP kl hm hst he hsz h0 hop (by rw [hds]; exact hend)
theorem build_two {ev : Operand → Value} {o : Oper} {t1 t2 : Nat} {f g : Fa} (hop : o.op = .buildSlice 22 2 #[(0, .tmp t1), (1, .tmp t2)]) (e1 : ev (.tmp t1) = .agg (FA f)) (e2 : ev (.tmp t2) = .agg (FA g)) (W : World) :
    (execOp ev o).run Tryz.prog W = .ok (.value (.slice (some ⟨W.heap.size, 0, none⟩) 2 2)) (W.alloc (.cells #[.int .u32 f.id, .int .u32 f.pe, .int .i64 f.ki, .int .i64 f.fr, .int .i64 f.to, .string f.co, .int .i64 f.nu, .string f.tx, .int .u32 g.id, .int .u32 g.pe, .int .i64 g.ki, .int .i64 g.fr, .int .i64 g.to, .string g.co, .int .i64 g.nu, .string g.tx] 26)) := by
  unfold FA at e1 e2
  unfold execOp
  simp only [hop, List.map_toArray, List.map_cons, List.map_nil, e1, e2]
  go_simp
end Go.Proofs.YtdkbbngedjiheaaGreatDoor
