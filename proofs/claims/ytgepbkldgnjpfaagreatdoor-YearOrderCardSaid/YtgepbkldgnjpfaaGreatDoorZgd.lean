/- Out of: Yb4 Yc0 Yc1 Yc2 Yc3. -/
import Derived.Test.YtgepbkldgnjpfaaGreatDoorZgc
import Derived.Maps.Ext
import Derived.Maps.OwnOps
import Derived.Maps.OwnSet
import Derived.Maps.RangeWalk
import Derived.Maps.Views
/- before.Sum. -/
namespace Go.Proofs.YtgepbkldgnjpfaaGreatDoor
open Go.RowKit Go.Sort Go.BigFrame

theorem centInfo : (Tryz.prog.info? 28).map (fun i => (i.zero, i.size, i.bytes)) = some (some (.int .i64 0), 1, 8) := by kernel_rfl
theorem newsC (x : Int) (w : World) : ∀ j u, (encC x)[j]? = some u → (w.alloc (.cells #[.int .i64 x] 28)).cell? ⟨w.heap.size, j, none⟩ = some u := by
  intro j u hu
  have h := Bk.new w 28 #[.int .i64 x]
  rw [h.cell]
  simpa [encC] using hu
/-- A row of the call's own, read as a slice. -/
theorem own_Sl {α : Type} {enc : α → List Value} {k : Nat} {e : TypeId} {base : Nat} {v : Value} {l : List α} {w : World} (hk : ∀ x, (enc x).length = k) (h : Own enc k e base v l w) : ∃ A cap, v = .slice A l.length cap ∧ Sl enc k w w.heap.size A l := by
  by_cases h0 : l = []
  · subst h0
    rcases h.2 with ⟨rfl, _⟩ | ⟨g, cap, cur, rfl, _⟩
    · exact ⟨none, 0, rfl, fun h => absurd rfl h⟩
    · exact ⟨_, cap, rfl, fun h => absurd rfl h⟩
  · obtain ⟨g, cap, hv, hb, hr⟩ := h.row hk h0
    exact ⟨_, cap, hv, fun _ => ⟨g, 0, rfl, hr.lt, fun i x hx j u hu => by rw [Nat.zero_add]; exact hr.cell hx hu⟩⟩
set_option maxHeartbeats 1000000 in
set_option maxRecDepth 100000 in
theorem bf_Sum (l : List It) (A : Option Addr) (cap : Nat) (w : World) (hn : l.length ≤ 1000000) (hs : Sl encI 2 w w.heap.size A l) :
    Calls Tryz.prog 36 #[.slice A l.length cap] w fun e w' => e = .returned (.tuple #[.int .i64 (sumC 0 (l.map Prod.snd)).1, .int .i64 (sumC 0 (l.map Prod.snd)).2]) ∧ Below w.heap.size w w' := by
  obtain ⟨r, hr⟩ : ∃ r, sumC 0 (l.map Prod.snd) = r := ⟨_, rfl⟩
  rw [hr]
  have HR := Lib.hid hr
  clear hr
  go_enter Tryz.func36, Tryz.ntmps36
  have HS := Lib.hid hs
  clear hs
  go_wp2
  go_loopw [4, 9] (fun ov iv wr => ∃ (sv : Value) (n : Nat), sv = ov ∧ n ≤ l.length ∧ iv = .int .i64 n ∧ Hid (Own encC 1 28 w.heap.size ov ((l.take n).map Prod.snd) wr) ∧ Hid (Below w.heap.size w wr)) (fun _ iv _ => l.length - (intOf iv).toNat)
  case atStart => exact ⟨_, 0, rfl, Nat.zero_le _, rfl, Lib.hid (by simpa using Own.nil _), Lib.hid (Below.refl _ _)⟩
  case round =>
    obtain ⟨ov, n, rfl, hn1, rfl, HO, HB⟩ := hrel
    by_cases hlt : n < l.length
    · obtain ⟨b, off, rfl, hB, hc⟩ := HS.out (by intro h; simp [h] at hlt)
      obtain ⟨⟨co, x⟩, hx⟩ : ∃ x, l[n]? = some x := ⟨_, List.getElem?_eq_getElem hlt⟩
      have C0 : wr.cell? ⟨b, off + n * 2, none⟩ = some (.string co) := (HB.out.cell (p := ⟨b, off + n * 2, none⟩) hB).trans (by simpa using hc n _ hx 0 _ rfl)
      have C1 : wr.cell? ⟨b, off + n * 2 + 1, none⟩ = some (.int .i64 x) := (HB.out.cell (p := ⟨b, off + n * 2 + 1, none⟩) hB).trans (hc n _ hx 1 _ rfl)
      have HX := Lib.hid hx
      have hbs := HB.out.size
      have hln : ((l.take n).map Prod.snd).length = n := by rw [List.length_map, List.length_take]; omega
      have HLE : ((l.take n).map Prod.snd).length + 1 ≤ 1000000000 := by omega
      have hstep : (l.take (n + 1)).map Prod.snd = (l.take n).map Prod.snd ++ [x] := by rw [List.take_add_one, hx, List.map_append]; rfl
      have HST := Lib.hid hstep
      obtain ⟨L, hL⟩ : ∃ L, (l.take n).map Prod.snd = L := ⟨_, rfl⟩
      rw [hL] at HO hln HLE HST
      clear hc hx hL hstep
      go_upto_region 5 with fail
      obtain ⟨fb, hfb⟩ : ∃ y, wr.heap.size = y := ⟨_, rfl⟩
      obtain ⟨wa, hwa⟩ : ∃ y, wr.alloc (.cells #[.string co, .int .i64 x] 65) = y := ⟨_, rfl⟩
      have hb0 : Bk fb 65 #[.string co, .int .i64 x] wa := by rw [← hwa, ← hfb]; exact Bk.new _ _ _
      have HB1 : Hid (Below w.heap.size w wa) := Lib.hid (HB.out.trans (by rw [← hwa]; exact (Grows.of_alloc wr _).below.mono hbs))
      have HO1 : Hid (Own encC 1 28 w.heap.size ov L wa) := Lib.hid (by rw [← hwa]; exact HO.out.alloc _)
      have hbs1 := HB1.out.size
      have hlt1 := hb0.lt
      have D1 : wa.cell? ⟨fb, 1, none⟩ = some (.int .i64 x) := hb0.cell 1
      have HB0 := Lib.hid hb0
      rw [hwa, hfb]
      clear hwa hfb hb0 C0 C1 HO HB hbs
      go_wp2_with ((at_builtin; refine wpList_append_row encC_len encC_one rfl _ _ 75 rfl w.heap.size 28 _ 8 Tryz.underlying75 centInfo rfl (by decide) _ L x rfl (HO1.out.alloc _) wa.heap.size 1 rfl (newsC x wa) HLE (by decide) (Nat.le_trans hbs1 (Grows.of_alloc wa _).size) ?_))
      intro v9 w9 hown9 hgr9
      have HB9 : Hid (Below w.heap.size w w9) := Lib.hid (HB1.out.trans (((bAlloc wa _).mono hbs1).trans (grownBelowI hgr9 (fun k hk => (HO1.out.lt hk).1) (Nat.le_trans hbs1 (Grows.of_alloc wa _).size))))
      have HO9 : Hid (Own encC 1 28 w.heap.size v9 ((l.take (n + 1)).map Prod.snd) w9) := Lib.hid (by
        rw [HST.out]
        exact hown9)
      clear hown9 hgr9
      go_wp2
      exact ⟨⟨_, n + 1, rfl, by omega, by go_num, HO9, HB9⟩, by simp [intOf]; omega⟩
    · obtain rfl : n = l.length := by omega
      have hown := HO.out
      rw [List.take_length] at hown
      obtain ⟨A2, cap2, hv, hsl⟩ := own_Sl encC_len hown
      subst hv
      have hml : (l.map Prod.snd).length ≤ 1000000 := by rw [List.length_map]; exact hn
      clear hown HO
      have h1 := ce_Sum (l.map Prod.snd) A2 cap2 wr hml hsl
      rw [HR.out] at h1
      have H1 := Lib.hid h1
      clear hsl h1 hml
      generalize (l.map Prod.snd).length = m at *
      go_wp2_with fail
      refine H1.out.mono ?_
      rintro e w1 ⟨rfl, rfl⟩
      go_wp2_with fail
      go_ret2
      exact ⟨rfl, HB.out⟩
end Go.Proofs.YtgepbkldgnjpfaaGreatDoor

/- Maps, read as lists of what was put (the last one first). -/
namespace Go.Proofs.YtgepbkldgnjpfaaGreatDoor
open Go.RowKit Go.Sort Go.Maps Go.WideMaps

abbrev heldV : Value → Option (DataW Value × List MemPlace) := fun v => some (.held v, [])
/-- What was put, the last one first. -/
abbrev Ass (κ β : Type) := List (κ × β)
def getA {κ β : Type} [DecidableEq κ] : Ass κ β → κ → Option β
  | [], _ => none
  | p :: r, k => if p.1 = k then some p.2 else getA r k
def dA {κ β : Type} (kl : κ → Lit) (enc : β → Value) : Ass κ β → DataW Value
  | [] => .map []
  | p :: r => (dA kl enc r).put (kl p.1) (.held (enc p.2))
/-- The key's word: apart where the keys are. -/
structure KeyW {κ : Type} (kl : κ → Lit) : Prop where
  inj : ∀ a b, kl a = kl b → a = b
  isKey : ∀ a, WideAt.IsKeyLit (kl a)
section
variable {κ β : Type} {kl : κ → Lit} {enc : β → Value}
theorem dA_map : ∀ m : Ass κ β, IsMap (dA kl enc m)
  | [] => isMap_empty
  | _ :: r => (dA_map r).put _ _
theorem dA_none (k : Lit) : ∀ m : Ass κ β, (∀ p ∈ m, kl p.1 ≠ k) → has (dA kl enc m) k = false
  | [], _ => rfl
  | p :: r, h => by
    unfold dA
    rw [has_put_other (fun e => h p (by simp) e.symm)]
    exact dA_none k r fun q hq => h q (by simp [hq])
variable [DecidableEq κ]
theorem dA_has (W : KeyW kl) (k : κ) : ∀ m : Ass κ β, has (dA kl enc m) (kl k) = (getA m k).isSome
  | [] => rfl
  | p :: r => by
    unfold dA getA
    by_cases h : p.1 = k
    · rw [if_pos h, h, has_put_same (dA_map r) (W.isKey k)]; rfl
    · rw [if_neg h, has_put_other (fun e => h (W.inj _ _ e).symm), dA_has W k r]
/-- What a look-up gives. -/
def lkA (enc : β → Value) (z : Value) (m : Ass κ β) (k : κ) : Value := match getA m k with
  | some x => enc x
  | none => z
theorem dA_at (W : KeyW kl) (k : κ) (z : Value) : ∀ m : Ass κ β, (dA kl enc m).atKey (kl k) (.held z) = .held (lkA enc z m k)
  | [] => rfl
  | p :: r => by
    unfold dA lkA getA
    by_cases h : p.1 = k
    · rw [if_pos h, h, atKey_put_same (dA_map r) (W.isKey k)]
    · rw [if_neg h, atKey_put_other (fun e => h (W.inj _ _ e).symm), dA_at W k z r]; rfl
end
/-- A map that may be nil. -/
def MapV {κ β : Type} (K : TypeId) (kl : κ → Lit) (enc : β → Value) (m : Ass κ β) (n : Nat) (v : Value) (w : World) : Prop :=
  (v = .map none ∧ m = []) ∨ ∃ b, v = .map (some b) ∧ w.ownsMap Tryz.prog K heldV b n (dA kl enc m)
section
variable {κ β : Type} {K : TypeId} {kl : κ → Lit} {enc : β → Value} {m : Ass κ β} {n : Nat} {v : Value} {w w' : World}
theorem hmBel {b : Nat} {D : DataW Value} (h : w.ownsMap Tryz.prog K heldV b n D) (hb : Below w.heap.size w w') : w'.ownsMap Tryz.prog K heldV b n D := h.kept (row := none) ⟨hb.os, hb.tape, hb.output, hb.size, fun i hi _ => hb.block i hi⟩ (by simp)
theorem MapV.below (h : MapV K kl enc m n v w) (hb : Below w.heap.size w w') : MapV K kl enc m n v w' := by
  rcases h with h | ⟨b, hv, h⟩
  · exact Or.inl h
  · exact Or.inr ⟨b, hv, hmBel h hb⟩
theorem MapV.grown (h : MapV K kl enc m n v w) {r : Nat} (hg : w.grownBy w' (some r)) (hr : v ≠ .map (some r)) : MapV K kl enc m n v w' := by
  rcases h with h | ⟨b, hv, h⟩
  · exact Or.inl h
  · exact Or.inr ⟨b, hv, h.kept hg (by intro e; injection e with e; subst e; exact hr hv)⟩
theorem MapV.mono (h : MapV K kl enc m n v w) {n' : Nat} (hn : n ≤ n') : MapV K kl enc m n' v w := by
  rcases h with h | ⟨b, hv, h⟩
  · exact Or.inl h
  · exact Or.inr ⟨b, hv, h.mono hn⟩
theorem MapV.nil : MapV K kl enc ([] : Ass κ β) n (.map none) w := Or.inl ⟨rfl, rfl⟩
theorem MapV.lt (h : MapV K kl enc m n v w) {b : Nat} (hv : v = .map (some b)) : b < w.heap.size := by
  rcases h with h | ⟨b', hv', h⟩
  · rw [h.1] at hv; cases hv
  · rw [hv'] at hv; cases hv; exact h.lt
theorem MapV.look [DecidableEq κ] (h : MapV K kl enc m n v w) (KK : Keyed Tryz.prog K) (W : KeyW kl) {T E : TypeId} (hT : Tryz.prog.underlying T = some (.map K E)) {z : Value} (hz : (zeroValue E).run Tryz.prog w = .ok z w) {key : Value} {k : κ} (hk : keyOf Tryz.prog K key = some (kl k)) :
    (Instr.lookup T v key false).run Tryz.prog w = .ok (lkA enc z m k) w := by
  rcases h with ⟨rfl, rfl⟩ | ⟨b, rfl, h⟩
  · simpa [lkA, getA] using look_nil false KK hT hz hk
  · obtain ⟨u, ps, hrun, hu⟩ := h.lookup KK hT hz (zd := .held z) (zp := []) rfl hk
    rw [dA_at W] at hu
    have h1 := DataW.held.inj (Prod.mk.inj (Option.some.inj hu)).1
    rw [hrun, h1]
theorem MapV.lookOk [DecidableEq κ] (h : MapV K kl enc m n v w) (KK : Keyed Tryz.prog K) (W : KeyW kl) {T E : TypeId} (hT : Tryz.prog.underlying T = some (.map K E)) {z : Value} (hz : (zeroValue E).run Tryz.prog w = .ok z w) {key : Value} {k : κ} (hk : keyOf Tryz.prog K key = some (kl k)) :
    (Instr.lookup T v key true).run Tryz.prog w = .ok (.tuple #[lkA enc z m k, .bool (getA m k).isSome]) w := by
  rcases h with ⟨rfl, rfl⟩ | ⟨b, rfl, h⟩
  · simpa [lkA, getA] using look_nil true KK hT hz hk
  · obtain ⟨u, ps, hrun, hu⟩ := h.look_ok KK hT hz (zd := .held z) (zp := []) rfl hk
    rw [dA_at W] at hu
    have h1 := DataW.held.inj (Prod.mk.inj (Option.some.inj hu)).1
    rw [dA_has W] at hrun
    rw [hrun, h1]
end
/-- A look-up at the operation, by its run. -/
theorem wpList_look {P : Program} (w : World) {ops : Array Oper} {rest : List Oper} {o : Oper} {a : Act} {Q : Exit → Act → World → Prop}
    (hg : o.guard = none) (m x : Operand) (t : TypeId) (c : Bool) (hop : o.op = Op.lookup t m x c) (v key r : Value) (hm : a.eval m = v) (hx : a.eval x = key) (hrun : (Instr.lookup t v key c).run P w = .ok r w)
    (hK : wpList P ops Q rest (a.put o.dst r) w) : wpList P ops Q (o :: rest) a w := by
  refine wpList_plain hg fun K' hK' => ?_
  unfold Oper.wp
  simp [execOp, hop, hm, hx, hrun, Result.andThen]
  exact hK' _ _ hK
/-- A text as a key. -/
def kS (s : ByteArray) : Lit := .string s.data.toList
theorem kS_W : KeyW kS where
  inj a b h := by
    unfold kS at h
    have := Lit.string.inj h
    exact ByteArray.ext (Array.toList_inj.1 this)
  isKey a := by unfold kS; trivial
theorem keyT : Keyed Tryz.prog 9 := string_keyed Tryz.underlying9
theorem keyOfS {s : ByteArray} (h : s.size ≤ maxLen) : keyOf Tryz.prog 9 (.string s) = some (kS s) := keyOf_string_mk Tryz.underlying9 h
theorem keyOfS_inv {v : Value} {k : Lit} (h : keyOf Tryz.prog 9 v = some k) : ∃ s, v = .string s ∧ k = kS s ∧ s.size ≤ maxLen := by
  cases v <;> simp [keyOf, Tryz.underlying9, mapKey] at h
  obtain ⟨h1, rfl⟩ := h
  exact ⟨_, rfl, rfl, h1⟩
end Go.Proofs.YtgepbkldgnjpfaaGreatDoor

/- before.bounds: limits, by their codes. -/
namespace Go.Proofs.YtgepbkldgnjpfaaGreatDoor
open Go.RowKit Go.Sort Go.BigFrame Go.Maps

theorem bkBel {g : Nat} {t : TypeId} {cs : Array Value} {w w' : World} (h : Bk g t cs w) (hb : Below w.heap.size w w') : Bk g t cs w' := (hb.block g h.lt).trans h

/-- A limit: its code, its part, its bound of the year. -/
abbrev Lim := ByteArray × Int × Int
def encL (x : Lim) : List Value := [.string x.1, .int .i64 x.2.1, .int .i64 x.2.2]
def aggL (x : Lim) : Value := .agg #[.string x.1, .int .i64 x.2.1, .int .i64 x.2.2]
theorem zeroLim (w : World) : (zeroValue 136).run Tryz.prog w = .ok (.agg #[.string ByteArray.empty, .int .i64 0, .int .i64 0]) w := by kernel_rfl
def limBad (x : Lim) : Bool := decide (x.2.1 < 0) || decide (1000000 < x.2.1) || !amtB x.2.2
def bndGo : Ass ByteArray Lim → List Lim → Ass ByteArray Lim × Int
  | m, [] => (m, 0)
  | m, x :: r => if nmB x.1 = false then ([], 12) else if (getA m x.1).isSome = true then ([], 7) else if limBad x = true then ([], 2) else bndGo ((x.1, x) :: m) r
/-- Limits by their codes, or what is wrong. -/
def bndL (l : List Lim) : Ass ByteArray Lim × Int := if 64 < l.length then ([], 5) else bndGo [] l
theorem lkL_agg (m : Ass ByteArray Lim) (k : ByteArray) : ∃ a b c, lkA aggL (.agg #[.string ByteArray.empty, .int .i64 0, .int .i64 0]) m k = .agg #[.string a, .int .i64 b, .int .i64 c] := by
  unfold lkA
  cases getA m k with
  | none => exact ⟨_, _, _, rfl⟩
  | some x => exact ⟨_, _, _, rfl⟩
abbrev MpL (m : Ass ByteArray Lim) (n : Nat) (v : Value) (w : World) : Prop := MapV 9 kS aggL m n v w
abbrev OmL (m : Ass ByteArray Lim) (n b : Nat) (w : World) : Prop := w.ownsMap Tryz.prog 9 heldV b n (dA kS aggL m)

set_option maxHeartbeats 4000000 in
set_option maxRecDepth 100000 in
theorem bf_bounds (l : List Lim) (A : Option Addr) (cap : Nat) (w : World) (hn : l.length ≤ 1000000) (hsz : ∀ x ∈ l, x.1.size ≤ 9223372036854775807) (hT : Tb w) (hs : Sl encL 3 w w.heap.size A l) :
    Calls Tryz.prog 70 #[.slice A l.length cap] w fun e w' => ∃ v, e = .returned (.tuple #[v, .int .i64 (bndL l).2]) ∧ MpL (bndL l).1 64 v w' ∧ Below w.heap.size w w' := by
  by_cases h64 : 64 < l.length
  · have HB : Hid (bndL l = ([], 5)) := Lib.hid (if_pos h64)
    go_enter Tryz.func70, Tryz.ntmps70
    go_wp2
    go_ret2
    rw [HB.out]
    exact ⟨_, rfl, MapV.nil, Below.refl _ _⟩
  obtain ⟨R, hR⟩ : ∃ R, bndL l = R := ⟨_, rfl⟩
  have HR : Hid (bndGo [] l = R) := Lib.hid (by rw [← hR]; exact (if_neg h64).symm)
  rw [hR]
  obtain ⟨mb, hmb⟩ : ∃ x, w.heap.size = x := ⟨_, rfl⟩
  obtain ⟨w2, hw2⟩ : ∃ x, w.alloc (.map #[] 0) = x := ⟨_, rfl⟩
  have k2 : OmL [] 0 mb w2 := by
    have := World.ownsMap_made (H := Value) w Tryz.prog 9 heldV
    rw [hmb, hw2] at this
    exact this
  have HK := Lib.hid k2
  have HB2 : Hid (Below w.heap.size w w2) := Lib.hid (by rw [← hw2]; exact bAlloc w _)
  have HMB : Hid (w.heap.size ≤ mb) := Lib.hid (by omega)
  have HS := Lib.hid hs
  have HT := Lib.hid hT
  have HSZ := Lib.hid hsz
  have HN : Hid (l.length ≤ 64) := Lib.hid (by omega)
  have hmm := @run_makeMap Tryz.prog
  clear hR k2 hs hT hsz
  go_enter Tryz.func70, Tryz.ntmps70
  go_upto_region 4 with fail
  clear hw2 hmm hmb
  go_wp2
  go_loopw [15] (fun iv wr => ∃ (n : Nat) (m : Ass ByteArray Lim), n ≤ l.length ∧ iv = .int .i64 n ∧ Hid (bndGo m (l.drop n) = R) ∧ Hid (OmL m n mb wr) ∧ Hid (Below w.heap.size w wr)) (fun iv _ => l.length - (intOf iv).toNat)
  case atStart => exact ⟨0, [], Nat.zero_le _, rfl, HR, HK, HB2⟩
  case round =>
    obtain ⟨n, m, hn1, rfl, HA, HM, HB⟩ := hrel
    by_cases hlt : n < l.length
    · obtain ⟨b, off, rfl, hB, hc⟩ := HS.out (by intro h; simp [h] at hlt)
      obtain ⟨⟨co, mo, ye⟩, hx⟩ : ∃ x, l[n]? = some x := ⟨_, List.getElem?_eq_getElem hlt⟩
      have C0 : wr.cell? ⟨b, off + n * 3, none⟩ = some (.string co) := (HB.out.cell (p := ⟨b, off + n * 3, none⟩) hB).trans (by simpa using hc n _ hx 0 _ rfl)
      have C1 : wr.cell? ⟨b, off + n * 3 + 1, none⟩ = some (.int .i64 mo) := (HB.out.cell (p := ⟨b, off + n * 3 + 1, none⟩) hB).trans (hc n _ hx 1 _ rfl)
      have C2 : wr.cell? ⟨b, off + n * 3 + 2, none⟩ = some (.int .i64 ye) := (HB.out.cell (p := ⟨b, off + n * 3 + 2, none⟩) hB).trans (hc n _ hx 2 _ rfl)
      have hdrop : l.drop n = (co, mo, ye) :: l.drop (n + 1) := by
        rw [List.drop_eq_getElem_cons hlt]
        congr 1
        have := List.getElem?_eq_getElem hlt
        rw [hx] at this
        exact (Option.some.inj this).symm
      have HD : Hid (bndGo m (l.drop n) = if nmB co = false then ([], 12) else if (getA m co).isSome = true then ([], 7) else if limBad (co, mo, ye) = true then ([], 2) else bndGo ((co, (co, mo, ye)) :: m) (l.drop (n + 1))) := Lib.hid (by rw [hdrop]; rfl)
      have hco : co.size ≤ 9223372036854775807 := HSZ.out _ (List.mem_of_getElem? hx)
      have hkey : keyOf Tryz.prog 9 (.string co) = some (kS co) := keyOfS (by unfold maxLen; omega)
      have HKY := Lib.hid hkey
      have HCO := Lib.hid hco
      have hbs := HB.out.size
      clear hc hx hdrop hkey hco
      go_upto_region 7 with fail
      obtain ⟨fb, hfb⟩ : ∃ y, wr.heap.size = y := ⟨_, rfl⟩
      obtain ⟨wa, hwa⟩ : ∃ y, wr.alloc (.cells #[.string co, .int .i64 mo, .int .i64 ye] 136) = y := ⟨_, rfl⟩
      have hb0 : Bk fb 136 #[.string co, .int .i64 mo, .int .i64 ye] wa := by rw [← hwa, ← hfb]; exact Bk.new _ _ _
      have HB1 : Hid (Below w.heap.size w wa) := Lib.hid (HB.out.trans (by rw [← hwa]; exact (Grows.of_alloc wr _).below.mono hbs))
      have HM1 : Hid (OmL m n mb wa) := Lib.hid (by rw [← hwa]; exact HM.out.alloc _)
      have hbs1 := HB1.out.size
      have hlt1 := hb0.lt
      have D0 : wa.cell? ⟨fb, 0, none⟩ = some (.string co) := hb0.cell 0
      obtain ⟨x1, x2, x3, hlk⟩ := lkL_agg m co
      obtain ⟨tw, htw⟩ : ∃ y, (getA m co).isSome = y := ⟨_, rfl⟩
      have HRUN : (Instr.lookup 130 (.map (some mb)) (.string co) true).run Tryz.prog wa = .ok (.tuple #[.agg #[.string x1, .int .i64 x2, .int .i64 x3], .bool tw]) wa := by
        have := MapV.lookOk (v := .map (some mb)) (Or.inr ⟨mb, rfl, HM1.out⟩) keyT kS_W Tryz.underlying130 (zeroLim wa) HKY.out
        rw [hlk, htw] at this
        exact this
      have HB0 := Lib.hid hb0
      have HTW := Lib.hid htw
      have HNE : Hid (fb ≠ mb ∧ w.heap.size ≤ fb) := Lib.hid ⟨by rw [← hfb]; exact Nat.ne_of_gt HM.out.lt, by omega⟩
      rw [hwa, hfb]
      clear hwa hb0 C0 C1 C2 HM HB hbs hlk htw hfb
      go_upto_region 8 with fail
      obtain ⟨wb, hwb⟩ : ∃ y, wa.alloc (.cells #[.string x1, .int .i64 x2, .int .i64 x3] 136) = y := ⟨_, rfl⟩
      have HBb : Hid (Below wa.heap.size wa wb) := Lib.hid (by rw [← hwb]; exact bAlloc wa _)
      have HB2 : Hid (Below w.heap.size w wb) := Lib.hid (HB1.out.trans (HBb.out.mono hbs1))
      have E0 := (HB0.out.grows (by rw [← hwb]; exact Grows.of_alloc wa _ : Grows wa wb))
      have D0b : wb.cell? ⟨fb, 0, none⟩ = some (.string co) := E0.cell 0
      have HB3 := Lib.hid E0
      have HM2 : Hid (OmL m n mb wb) := Lib.hid (hmBel HM1.out HBb.out)
      have hsb := HBb.out.size
      rw [hwb]
      clear hwb D0 HRUN E0
      go_wp2_with fail
      refine (bf_name _ _ HCO.out (HT.out.below HB2.out)).mono ?_
      rintro e w3 ⟨rfl, hb3⟩
      have HB4 : Hid (Below w.heap.size w w3) := Lib.hid (HB2.out.trans (hb3.mono HB2.out.size))
      have HM3 : Hid (OmL m n mb w3) := Lib.hid (hmBel HM2.out hb3)
      have E1 : Bk fb 136 #[.string co, .int .i64 mo, .int .i64 ye] w3 := bkBel HB3.out hb3
      have F0 : w3.cell? ⟨fb, 0, none⟩ = some (.string co) := E1.cell 0
      have F1 : w3.cell? ⟨fb, 1, none⟩ = some (.int .i64 mo) := E1.cell 1
      have F2 : w3.cell? ⟨fb, 2, none⟩ = some (.int .i64 ye) := E1.cell 2
      have hlt3 := E1.lt
      have HB5 := Lib.hid E1
      clear E1 D0b hb3 HB3
      obtain ⟨nm, hnm⟩ : ∃ y, nmB co = y := ⟨_, rfl⟩
      rw [hnm] at HD ⊢
      cases nm
      · have HE : Hid (R = ([], 12)) := Lib.hid (by rw [← HA.out, HD.out, if_pos rfl])
        go_wp2
        go_ret2
        rw [HE.out]
        exact ⟨_, rfl, MapV.nil, HB4.out⟩
      cases tw with
      | true =>
        have HE : Hid (R = ([], 7)) := Lib.hid (by rw [← HA.out, HD.out, if_neg (by simp), if_pos HTW.out])
        go_wp2
        go_ret2
        rw [HE.out]
        exact ⟨_, rfl, MapV.nil, HB4.out⟩
      | false =>
        have HX : Hid (R = if limBad (co, mo, ye) = true then ([], 2) else bndGo ((co, (co, mo, ye)) :: m) (l.drop (n + 1))) := Lib.hid (by rw [← HA.out, HD.out, if_neg (by simp), if_neg (by rw [HTW.out]; simp)])
        by_cases h1 : mo < 0
        · have d1 : decide (mo < (0 : Int)) = true := decide_eq_true h1
          have HE : Hid (R = ([], 2)) := Lib.hid (by rw [HX.out, if_pos (by simp [limBad, h1])])
          go_wp2
          go_ret2
          rw [HE.out]
          exact ⟨_, rfl, MapV.nil, HB4.out⟩
        have d1 : decide (mo < (0 : Int)) = false := decide_eq_false h1
        by_cases h2 : 1000000 < mo
        · have d2 : decide ((1000000 : Int) < mo) = true := decide_eq_true h2
          have HE : Hid (R = ([], 2)) := Lib.hid (by rw [HX.out, if_pos (by simp [limBad, h2])])
          go_wp2
          go_ret2
          rw [HE.out]
          exact ⟨_, rfl, MapV.nil, HB4.out⟩
        have d2 : decide ((1000000 : Int) < mo) = false := decide_eq_false h2
        have HLB : Hid (limBad (co, mo, ye) = !amtB ye) := Lib.hid (by simp only [limBad, d1, d2, Bool.false_or])
        clear h1 h2
        go_wp2_with fail
        refine (bf_right _ _).mono ?_
        rintro e w4 ⟨rfl, rfl⟩
        obtain ⟨am, ham⟩ : ∃ y, amtB ye = y := ⟨_, rfl⟩
        rw [ham] at HLB ⊢
        cases am with
        | false =>
          have HE : Hid (R = ([], 2)) := Lib.hid (by rw [HX.out, if_pos (by rw [HLB.out]; rfl)])
          go_wp2
          go_ret2
          rw [HE.out]
          exact ⟨_, rfl, MapV.nil, HB4.out⟩
        | true =>
          have HE : Hid (bndGo ((co, (co, mo, ye)) :: m) (l.drop (n + 1)) = R) := Lib.hid (by rw [HX.out, if_neg (by rw [HLB.out]; simp)])
          have HNB : Hid (n < maxLen) := Lib.hid (by unfold maxLen; omega)
          go_wp2_with (at_mapUpdate; refine wpList_mapUpdate_own _ rfl _ _ _ 130 rfl 9 136 keyT Tryz.underlying130 heldV mb n _ rfl HM3.out HNB.out _ _ _ rfl rfl HKY.out _ [] rfl ?_)
          intro w5 hm5 hg5
          have HB6 : Hid (Below w.heap.size w w5) := Lib.hid (HB4.out.grown hg5 HB4.out.size (fun j hj => by cases hj; exact HMB.out))
          have HM6 : Hid (OmL ((co, (co, mo, ye)) :: m) (n + 1) mb w5) := Lib.hid hm5
          clear hm5 hg5
          go_wp2
          exact ⟨⟨n + 1, _, by omega, by go_num, HE, HM6, HB6⟩, by simp [intOf]; omega⟩
    · obtain rfl : n = l.length := by omega
      go_wp2
      go_ret2
      have h := HA.out
      rw [List.drop_length] at h
      refine ⟨_, by rw [← h]; rfl, by rw [← h]; exact Or.inr ⟨mb, rfl, HM.out.mono HN.out⟩, HB.out⟩
end Go.Proofs.YtgepbkldgnjpfaaGreatDoor

/- maps.Copy into an empty map. -/
namespace Go.Proofs.YtgepbkldgnjpfaaGreatDoor
open Go.RowKit Go.Sort Go.BigFrame Go.Maps

def aggC (c : Int) : Value := .int .i64 c
abbrev MpC (m : Ass ByteArray Int) (n : Nat) (v : Value) (w : World) : Prop := MapV 9 kS aggC m n v w
abbrev OmC (m : Ass ByteArray Int) (n b : Nat) (w : World) : Prop := w.ownsMap Tryz.prog 9 heldV b n (dA kS aggC m)
/-- An amount of a map; 0: it isn't there. -/
def g0 (m : Ass ByteArray Int) (k : ByteArray) : Int := (getA m k).getD 0
theorem lkC (m : Ass ByteArray Int) (k : ByteArray) : lkA aggC (.int .i64 0) m k = .int .i64 (g0 m k) := by
  unfold lkA g0
  cases getA m k <;> rfl
theorem zeroCe (w : World) : (zeroValue 28).run Tryz.prog w = .ok (.int .i64 0) w := by kernel_rfl

set_option maxHeartbeats 2000000 in
set_option maxRecDepth 100000 in
theorem mp_Copy (m : Ass ByteArray Int) (n bd : Nat) (v : Value) (w : World) (hm : MpC m n v w) (hd : OmC [] 0 bd w) (hne : v ≠ .map (some bd)) (hn : n < maxLen) :
    Calls Tryz.prog 72 #[.map (some bd), v] w fun e w' => e = .returned (.tuple #[]) ∧ OmC m n bd w' ∧ w.grownBy w' (some bd) := by
  rcases hm with ⟨rfl, rfl⟩ | ⟨bs, rfl, hs⟩
  · have hrg := run_range_nilMap (P := Tryz.prog) w 26 _ _ Tryz.underlying26
    have hnx : ∀ ty, (Instr.next (.pointer (some ⟨w.heap.size, 0, none⟩)) false ty).run Tryz.prog (w.alloc (.mapIter none 0 #[] 0)) = _ := fun ty => run_next_nilMap _ ty 0 0 #[]
    go_enter Tryz.func72, Tryz.ntmps72
    go_wp2
    refine wp_loop_rounds 1 ?_
    rw [rounds_succ]
    go_wp2
    go_end0
    exact ⟨rfl, (hd.alloc _).mono (Nat.zero_le _), World.grownBy_alloc w _ _⟩
  have hbd := hd.lt
  have hbs := hs.lt
  have hne' : bd ≠ bs := by rintro rfl; exact hne rfl
  clear hne
  go_enter Tryz.func72, Tryz.ntmps72
  go_wp2_with (first
    | (at_range; refine wpList_range_own _ rfl _ 26 rfl 9 28 keyT Tryz.underlying26 heldV bs n _ rfl hs ?_; intro w0 hrg0 hg0 hs0)
    | go_in)
  go_frame
  go_loopw [8] (fun _ wr => ∃ (left : Lit → Bool) (cnt : Nat) (Dout : DataW Value), wr.ranges Tryz.prog 9 heldV bs w.heap.size n (dA kS aggC m) left cnt ∧ cnt ≤ n ∧
      wr.ownsMap Tryz.prog 9 heldV bd (n - cnt) Dout ∧ Agree Dout (dA kS aggC m) left ∧ w.grownBy wr (some bd))
    (fun _ wr => wr.rangeLeft bs w.heap.size)
  case atStart =>
    exact ⟨_, _, .map [], hrg0, hs.size_le, (hd.kept hg0 (by simp)).mono (Nat.zero_le _), agree_start _, hg0.but _⟩
  case round =>
    obtain ⟨left, cnt, Dout, hrg, hcs, hout, hM, hgw⟩ := hrel
    go_wp2_with (first
      | (at_next; refine wpList_next_ranges _ rfl _ rfl 9 keyT heldV id id (fun key _ _ => ⟨key, rfl⟩) (fun v _ _ => ⟨v, rfl⟩) bs w.heap.size n _ _ _ rfl hrg ?_ ?_)
      | go_in)
    · intro hc0 hl0
      go_wp2
      go_end0
      subst hc0
      have e := agree_end hM hl0 (hout.canon keyT) (hs.canon keyT)
      subst e
      exact ⟨rfl, by simpa using hout, hgw⟩
    · intro x c kl yd yp w1 cnt1 hkey hlx hv hv2 hat hrg1 hlt hg1 hs1 hen
      subst hv hv2
      have hout1 := hout.kept hg1 (fun e => by have := Option.some.inj e; omega)
      obtain ⟨s, rfl, rfl, _⟩ := keyOfS_inv hkey
      have hnc : n - cnt < maxLen := by omega
      go_wp2_with (first
        | (at_mapUpdate; refine wpList_mapUpdate_own _ rfl _ _ _ 26 rfl 9 28 keyT Tryz.underlying26 heldV bd _ _ rfl hout1 hnc _ _ _ rfl rfl hkey _ _ rfl ?_; intro w2 hout2 hg2; go_frame)
        | go_in)
      have hrg2 := hrg1.kept hg2 (fun e => hne' (Option.some.inj e).symm) (fun e => by have := Option.some.inj e; omega)
      go_roundw
      case rel =>
        exact ⟨_, cnt1, _, hrg2, by omega, hout2.mono (by omega), agree_step hM hout.isMap (kS_W.isKey s) hat, (hgw.andThen hg1 (fun j hj => .inl (by cases hj; exact Nat.le_refl _))).andThen hg2 (fun j hj => .inr hj)⟩
      case measure => rw [hrg2.left_eq, hrg.left_eq]; exact hlt
end Go.Proofs.YtgepbkldgnjpfaaGreatDoor

/- before.Take, the plain part: what is taken, item by item. -/
namespace Go.Proofs.YtgepbkldgnjpfaaGreatDoor
open Go.RowKit Go.Sort Go.BigFrame Go.Maps

/-- What a limit leaves of an amount. -/
def limC (g : Int) (by_ : Ass ByteArray Lim) (now year : Ass ByteArray Int) (k : ByteArray) (c : Int) : Int := match getA by_ k with
  | none => c
  | some l => min c (roomX (max g 0) l.2.1 l.2.2 (g0 now k) (g0 year k))
def takGo (g : Int) (was : Ass ByteArray Int) (by_ : Ass ByteArray Lim) : Int → Ass ByteArray Int → Ass ByteArray Int → List It → List It → List It × Ass ByteArray Int × Int
  | _, _, year, out, [] => (out, year, 0)
  | left, now, year, out, x :: r =>
    if nmB x.1 = false then ([], [], 12)
    else if amtB x.2 = false then ([], [], 2)
    else if amtB (g0 was x.1) = false then ([], [], 2)
    else if amtB (g0 year x.1 + limC g by_ now year x.1 (min x.2 left)) = false then ([], [], 9)
    else takGo g was by_ (left - limC g by_ now year x.1 (min x.2 left)) ((x.1, g0 now x.1 + limC g by_ now year x.1 (min x.2 left)) :: now) ((x.1, g0 year x.1 + limC g by_ now year x.1 (min x.2 left)) :: year) (if 0 < limC g by_ now year x.1 (min x.2 left) then out ++ [(x.1, limC g by_ now year x.1 (min x.2 left))] else out) r
/-- What is taken of a gross, what was taken in the year, or what is wrong. -/
def takeL (g : Int) (was : Ass ByteArray Int) (wanted : List It) (limits : List Lim) : List It × Ass ByteArray Int × Int :=
  if fitB g = false then ([], [], 2)
  else if (bndL limits).2 ≠ 0 then ([], [], (bndL limits).2)
  else if 64 < wanted.length then ([], [], 5)
  else takGo g was (bndL limits).1 (max g 0) [] was [] wanted

theorem bndGo_ok : ∀ (l : List Lim) (m m' : Ass ByteArray Lim), bndGo m l = (m', 0) → (∀ p ∈ m, limBad p.2 = false) → ∀ p ∈ m', limBad p.2 = false
  | [], m, m', h, hm => by
    unfold bndGo at h
    cases h
    exact hm
  | x :: r, m, m', h, hm => by
    unfold bndGo at h
    split at h
    · cases h
    split at h
    · cases h
    split at h
    · cases h
    · rename_i hb
      exact bndGo_ok r _ m' h fun p hp => by
        rcases List.mem_cons.1 hp with rfl | hp
        · simpa using hb
        · exact hm p hp
theorem getA_mem {κ β : Type} [DecidableEq κ] {k : κ} {x : β} : ∀ {m : Ass κ β}, getA m k = some x → (k, x) ∈ m
  | [], h => by cases h
  | p :: r, h => by
    unfold getA at h
    by_cases e : p.1 = k
    · rw [if_pos e] at h
      cases h
      rw [← e]
      exact List.mem_cons_self
    · rw [if_neg e] at h
      exact List.mem_cons_of_mem _ (getA_mem h)
theorem bndL_ok {l : List Lim} (h : (bndL l).2 = 0) {k : ByteArray} {x : Lim} (hx : getA (bndL l).1 k = some x) : (0 ≤ x.2.1 ∧ x.2.1 ≤ 1000000) ∧ 0 ≤ x.2.2 ∧ x.2.2 ≤ 1125899906842624 := by
  unfold bndL at h hx
  split at h
  · cases h
  rename_i h64
  rw [if_neg h64] at hx
  have := bndGo_ok l [] (bndGo [] l).1 (Prod.ext rfl h) (by simp) _ (getA_mem hx)
  simp only [limBad, amtB, Bool.or_eq_false_iff, decide_eq_false_iff_not, Bool.not_eq_false', decide_eq_true_eq] at this
  omega
theorem roomX_nn (g most yearly now year : Int) : 0 ≤ roomX g most yearly now year := by unfold roomX; simp only; omega
theorem limC_bd {g : Int} {by_ : Ass ByteArray Lim} {now year : Ass ByteArray Int} {k : ByteArray} {c : Int} (hc : 0 ≤ c) : 0 ≤ limC g by_ now year k c ∧ limC g by_ now year k c ≤ c := by
  unfold limC
  cases getA by_ k with
  | none => exact ⟨hc, Int.le_refl _⟩
  | some l => have := roomX_nn (max g 0) l.2.1 l.2.2 (g0 now k) (g0 year k); dsimp only; omega
theorem getA_cons {κ β : Type} [DecidableEq κ] (k j : κ) (c : β) (m : Ass κ β) : getA ((k, c) :: m) j = if k = j then some c else getA m j := rfl
theorem g0_cons (k j : ByteArray) (c : Int) (m : Ass ByteArray Int) : g0 ((k, c) :: m) j = if k = j then c else g0 m j := by
  unfold g0
  rw [getA_cons]
  split <;> rfl
/-- What holds all along: what is left is no less than nought; what was taken of a code, with what is left, is no more than the gross. -/
structure TakI (g left : Int) (now year was : Ass ByteArray Int) : Prop where
  l0 : 0 ≤ left
  n0 : ∀ k, 0 ≤ g0 now k
  nl : ∀ k, g0 now k + left ≤ max g 0
  ye : ∀ k, g0 year k = g0 was k ∨ amtB (g0 year k) = true
theorem TakI.next {g left : Int} {now year was : Ass ByteArray Int} (h : TakI g left now year was) (k : ByteArray) {c : Int} (h0 : 0 ≤ c) (hc : c ≤ left) (hy : amtB (g0 year k + c) = true) : TakI g (left - c) ((k, g0 now k + c) :: now) ((k, g0 year k + c) :: year) was where
  l0 := by omega
  n0 j := by
    rw [g0_cons]
    split
    · have := h.n0 k; omega
    · exact h.n0 j
  nl j := by
    rw [g0_cons]
    split
    · have := h.nl k; omega
    · have := h.nl j; omega
  ye j := by
    rw [g0_cons]
    split
    · exact Or.inr hy
    · exact h.ye j
end Go.Proofs.YtgepbkldgnjpfaaGreatDoor
