/- Merged from: Aps Dk1 Dk2 Dr2. -/
import Derived.Test.YtgheloooibafcaaGreatDoorDys
import Derived.Lib.SliceRun
import Derived.BigQuiet
/- Many elements appended to a row of the call's own, out of a slice that reads as a list. -/
namespace Go.Proofs.YtgheloooibafcaaGreatDoor
open Go.RowKit Go.Sort

theorem rowOf_ex1 {α : Type} {enc : α → List Value} {k : Nat} (hk : ∀ x, (enc x).length = k) : ∀ (l : List α) (j : Nat) (u : Value), (rowOf enc l)[j]? = some u → ∃ i r x, j = i * k + r ∧ l[i]? = some x ∧ (enc x)[r]? = some u := by
  intro l
  induction l with
  | nil => intro j u h; simp [rowOf] at h
  | cons y l ih =>
    intro j u h
    have e : rowOf enc (y :: l) = enc y ++ rowOf enc l := rfl
    rw [e] at h
    by_cases hj : j < k
    · rw [List.getElem?_append_left (by rw [hk]; exact hj)] at h
      exact ⟨0, j, y, by omega, rfl, h⟩
    · rw [List.getElem?_append_right (by rw [hk]; omega), hk] at h
      obtain ⟨i, r, x, h1, h2, h3⟩ := ih _ _ h
      exact ⟨i + 1, r, x, by rw [Nat.add_mul]; omega, by simpa using h2, h3⟩
/-- The cells of a slice's elements, one by one. -/
theorem Sl.newsN {α : Type} {enc : α → List Value} {k : Nat} (hk : ∀ x, (enc x).length = k) {w : World} {b off : Nat} {S : List α}
    (h : ∀ i x, S[i]? = some x → ∀ j u, (enc x)[j]? = some u → w.cell? ⟨b, off + i * k + j, none⟩ = some u) : ∀ j u, (rowOf enc S)[j]? = some u → w.cell? ⟨b, off + j, none⟩ = some u := fun j u hu => by
  obtain ⟨i, r, x, rfl, h1, h2⟩ := rowOf_ex1 hk S j u hu
  rw [← Nat.add_assoc]
  exact h i x h1 r u h2

theorem wpList_append_rowsN {α : Type} {enc : α → List Value} {k : Nat} {P : Program} {ops : Array Oper} {rest : List Oper} {o : Oper} {a : Act} {w : World} {Q : Exit → Act → World → Prop}
    (hk : ∀ x, (enc x).length = k) (h1 : ∀ x, ∀ u ∈ enc x, u.oneCell' = true) (hgd : o.guard = none) (s x : Operand) (t : TypeId)
    (ho : o.op = .call { callee := .builtin .append, args := #[s, x], argTypes := #[t, t] })
    (base : Nat) (e : TypeId) (z : Value) (bytes : Nat) (ht : P.underlying t = some (.slice e)) (hi : (P.info? e).map (fun i => (i.zero, i.size, i.bytes)) = some (some z, k, bytes)) (hzs : z.cells.size = k) (hsz : 0 < k)
    (v : Value) (l S : List α) (hs : a.eval s = v) (hown : Own enc k e base v l w)
    (b off m c : Nat) (hx : a.eval x = .slice (some ⟨b, off, none⟩) m c) (hm : S.length = m) (hnews : ∀ j u, (rowOf enc S)[j]? = some u → w.cell? ⟨b, off + j, none⟩ = some u)
    (hn : l.length + m ≤ 1000000000) (hb : bytes ≤ 1000) (hbase : base ≤ w.heap.size)
    (h : ∀ v' w', Own enc k e base v' (l ++ S) w' → w.grownBy w' v.ownBlock → wpList P ops Q rest (a.put o.dst v') w') : wpList P ops Q (o :: rest) a w := by
  obtain ⟨i, hi1, hz, hsize, hby⟩ := info_parts hi
  subst hm
  refine wpList_append_own w hgd s x t ho base e i z k bytes ht hi1 hz hsize hby hzs hsz v l.length (rowOf enc l) hs hown ⟨b, off, none⟩ S.length c (rowOf enc S) hx (by rw [rowOf_length hk]) (fun j u hu => ?_) (fun u hu => ?_) (by simp only [maxLen]; omega) ?_ hbase (fun v' w' h2 h3 _ => h v' w' ?_ h3)
  · have := hnews j u hu
    unfold Addr.add
    split
    · rename_i h0; subst h0; simpa using this
    · simpa using this
  · obtain ⟨x, _, hx⟩ := List.mem_flatMap.1 hu
    exact h1 x u hx
  · exact Nat.le_trans (Nat.mul_le_mul hn hb) (by omega)
  · unfold Own
    rw [List.length_append, rowOf_append]; exact h2
end Go.Proofs.YtgheloooibafcaaGreatDoor

namespace Go.Proofs.YtgheloooibafcaaGreatDoor
open Go.RowKit Go.Sort

/-- A line. -/
abbrev Ln := Int × ByteArray × Int
def encL (x : Ln) : List Value := [.int .i64 x.1, .string x.2.1, .int .i64 x.2.2]
theorem encL_len (x : Ln) : (encL x).length = 3 := rfl
theorem encL_one (x : Ln) : ∀ u ∈ encL x, u.oneCell' = true := by
  intro u hu
  simp only [encL, List.mem_cons, List.not_mem_nil, or_false] at hu
  rcases hu with rfl | rfl | rfl <;> rfl
abbrev OwnL (B : Nat) (v : Value) (l : List Ln) (w : World) : Prop := Own encL 3 134 B v l w
abbrev SlL (w : World) (A : Option Addr) (L : List Ln) : Prop := Sl encL 3 w w.heap.size A L
theorem lineInfo : (Tryz.prog.info? 134).map (fun i => (i.zero, i.size, i.bytes)) = some (some (.agg #[.int .i64 0, .string ⟨#[]⟩, .int .i64 0]), 3, 32) := by kernel_rfl
/-- A slip, and the lines that its slice holds. -/
structure Sz where
  y : Int
  i : Int
  A : Option Addr
  c : Nat
  ls : List Ln
def encZ (z : Sz) : List Value := [.int .i64 z.y, .int .i64 z.i, .slice z.A z.ls.length z.c]
theorem encZ_len (z : Sz) : (encZ z).length = 3 := rfl
theorem encZ_one (z : Sz) : ∀ u ∈ encZ z, u.oneCell' = true := by
  intro u hu
  simp only [encZ, List.mem_cons, List.not_mem_nil, or_false] at hu
  rcases hu with rfl | rfl | rfl <;> rfl
theorem slipInfo : (Tryz.prog.info? 60).map (fun i => (i.zero, i.size, i.bytes)) = some (some (.agg #[.int .i64 0, .int .i64 0, .slice none 0 0]), 3, 40) := by kernel_rfl
abbrev OwnZ (B : Nat) (v : Value) (l : List Sz) (w : World) : Prop := Own encZ 3 60 B v l w
theorem newsZ (z : Sz) (w : World) : ∀ j u, (encZ z)[j]? = some u → (w.alloc (.cells #[.int .i64 z.y, .int .i64 z.i, .slice z.A z.ls.length z.c] 60)).cell? ⟨w.heap.size, j, none⟩ = some u := by
  intro j u hu
  have h := Bk.new w 60 #[.int .i64 z.y, .int .i64 z.i, .slice z.A z.ls.length z.c]
  rw [h.cell]
  simpa [encZ] using hu
/-- Slips in a slice. -/
def SlZ (w : World) (A : Option Addr) (Z : List Sz) : Prop := Sl encZ 3 w w.heap.size A Z ∧ ∀ z ∈ Z, SlL w z.A z.ls
theorem sl_bel {α : Type} {enc : α → List Value} {k : Nat} {w w' : World} {A : Option Addr} {L : List α} (h : Sl enc k w w.heap.size A L) (hb : Below w.heap.size w w') : Sl enc k w' w'.heap.size A L := fun hl => by
  obtain ⟨b, off, e, hlt, hc⟩ := h hl
  exact ⟨b, off, e, Nat.lt_of_lt_of_le hlt hb.size, fun i x hx j u hu => (hb.cell (p := ⟨b, _, none⟩) hlt).trans (hc i x hx j u hu)⟩
theorem SlZ.below {w w' : World} {A : Option Addr} {Z : List Sz} (h : SlZ w A Z) (hb : Below w.heap.size w w') : SlZ w' A Z := ⟨sl_bel h.1 hb, fun z hz => sl_bel (h.2 z hz) hb⟩
/-- What a slip tells. -/
def Sz.key (z : Sz) : Int × Int × List Ln := (z.y, z.i, z.ls)
def aheadK (y i : Int) (k : Int × Int × List Ln) : Bool := decide (k.1 < y ∨ (k.1 = y ∧ k.2.1 < i))
theorem sliceL_new (w : World) : Own encL 3 134 w.heap.size (.slice (some ⟨w.heap.size, 0, none⟩) 0 0) [] (w.alloc (.cells #[] 134)) := own_empty (Bk.new w _ #[]) (Nat.le_refl _)
set_option maxRecDepth 10000 in
theorem dy_Clone (L : List Ln) (A : Option Addr) (cap : Nat) (w : World) (hn : L.length ≤ maxLen) (hr : L.length * 32 ≤ 140737488355328) (hs : SlL w A L) :
    Calls Tryz.prog 60 #[.slice A L.length cap] w fun e w' => (∃ A' c', e = .returned (.slice A' L.length c') ∧ OwnL w.heap.size (.slice A' L.length c') L w') ∧ Below w.heap.size w w' := by
  obtain ⟨i, hi1, hz, hsize, hby⟩ := info_parts lineInfo
  have q58 : ∀ (w : World) (a : Option Addr) (n c n' c' : Nat), (binOp .eql 58 (.slice a n c) (.slice none n' c')).run Tryz.prog w = .ok (.bool a.isNone) w := fun w a n c n' c' => Lib.run_eql_slice_nil w _ _ a n c n' c' Tryz.underlying58
  cases A with
  | none =>
    have h0 : L = [] := by
      cases L with
      | nil => rfl
      | cons x r => obtain ⟨b, off, e, _⟩ := hs (by simp); cases e
    subst h0
    clear hs hn hr
    go_enter Tryz.func60, Tryz.ntmps60
    go_wp2
    go_ret
    exact ⟨⟨none, 0, rfl, Own.nil _⟩, Below.refl _ _⟩
  | some ad =>
    have hnews : Hid (∀ j u, (rowOf encL L)[j]? = some u → w.cell? (ad.add j) = some u) := Lib.hid fun j u hu => by
      have hl : L ≠ [] := by intro h; subst h; simp [rowOf] at hu
      obtain ⟨b, off, e, hlt, hc⟩ := hs hl
      cases e
      rw [Addr.add_lit]
      exact Sl.newsN encL_len hc j u hu
    clear hs
    go_enter Tryz.func60, Tryz.ntmps60
    go_wp2_with (at_builtin; refine wpList_append_own _ rfl _ _ 58 rfl w.heap.size 134 i _ 3 32 Tryz.underlying58 hi1 hz hsize hby rfl (by decide) _ 0 [] rfl (sliceL_new w) ad L.length cap (rowOf encL L) rfl ?q1 ?q2 ?q3 ?q4 ?q5 ?q6 ?_)
    case q1 => exact rowOf_length encL_len L
    case q2 => exact fun j u hu => Lib.cell?_alloc_some _ (hnews.out j u hu)
    case q3 =>
      intro u hu
      unfold rowOf at hu
      rw [List.mem_flatMap] at hu
      obtain ⟨x, _, hx⟩ := hu
      exact encL_one x u hx
    case q4 => rw [Nat.zero_add]; exact hn
    case q5 => rw [Nat.zero_add]; exact hr
    case q6 => exact Nat.le_of_lt (size_new _ _)
    intro v' w1 hown hgrow _
    have ho : OwnL w.heap.size v' L w1 := hown
    obtain ⟨A', c', rfl, _, _⟩ := own_sl encL_len ho
    have HS := Lib.hid ho
    have HB : Hid (Below w.heap.size w w1) := Lib.hid (bel_own (bAlloc w _) (Nat.le_of_lt (size_new _ _)) (sliceL_new w) hgrow)
    clear hown hgrow ho
    go_wp2
    go_ret
    exact ⟨⟨A', c', rfl, HS.out⟩, HB.out⟩
end Go.Proofs.YtgheloooibafcaaGreatDoor

namespace Go.Proofs.YtgheloooibafcaaGreatDoor
open Go.RowKit Go.Sort

theorem ahead_take {y i : Int} {Z : List Sz} {k : Nat} {z : Sz} (h : Z[k]? = some z) : ((Z.take (k + 1)).map Sz.key).filter (aheadK y i) = ((Z.take k).map Sz.key).filter (aheadK y i) ++ (if aheadK y i z.key = true then [z.key] else []) := by
  rw [List.take_add_one, h, List.map_append, List.filter_append]
  congr 1
  by_cases h0 : aheadK y i z.key = true <;> simp [h0]
/-- Room for each slip's lines. -/
def RoomZ (Z : List Sz) : Prop := ∀ z ∈ Z, z.ls.length * 32 ≤ 140737488355328
theorem room_max {n : Nat} (h : n * 32 ≤ 140737488355328) : n ≤ maxLen := by simp only [maxLen]; omega
theorem own_bk {α : Type} {enc : α → List Value} {k B : Nat} {e : TypeId} {v : Value} {l : List α} {w : World} (h : Own enc k e B v l w) {g : Nat} (hg : v.ownBlock = some g) : ∃ cur, Bk g e cur w := by
  rcases h.2 with ⟨rfl, _⟩ | ⟨g', cap, cur, rfl, _, hh, _⟩
  · simp [Value.ownBlock] at hg
  · have : g' = g := by simpa [Value.ownBlock] using hg
    subst this
    exact ⟨cur, hh⟩
theorem own_apart {α β : Type} {enc : α → List Value} {enc2 : β → List Value} {k k2 B B2 : Nat} {e e2 : TypeId} {v v2 : Value} {l : List α} {l2 : List β} {w : World} (h : Own enc k e B v l w) (h2 : Own enc2 k2 e2 B2 v2 l2 w) (hne : e2 ≠ e) : v.ownBlock = none ∨ v.ownBlock ≠ v2.ownBlock := by
  cases hv : v.ownBlock with
  | none => exact .inl rfl
  | some g =>
    obtain ⟨cur, hk⟩ := own_bk h hv
    exact .inr (h2.ne_ hk hne)
/-- Slips of one's own, each with lines of one's own. -/
def KeptZ (B : Nat) (v : Value) (K : List (Int × Int × List Ln)) (w : World) : Prop := ∃ Z, OwnZ B v Z w ∧ (∀ z ∈ Z, OwnL B (.slice z.A z.ls.length z.c) z.ls w) ∧ Z.map Sz.key = K
theorem KeptZ.below {B : Nat} {v : Value} {K : List (Int × Int × List Ln)} {w w' : World} (h : KeptZ B v K w) (hb : Below w.heap.size w w') : KeptZ B v K w' := by
  obtain ⟨Z, h1, h2, h3⟩ := h
  exact ⟨Z, own_bel h1 hb, fun z hz => own_bel (h2 z hz) hb, h3⟩
theorem KeptZ.down {B B' : Nat} {v : Value} {K : List (Int × Int × List Ln)} {w : World} (h : KeptZ B v K w) (hB : B' ≤ B) : KeptZ B' v K w := by
  obtain ⟨Z, h1, h2, h3⟩ := h
  exact ⟨Z, own_down h1 hB, fun z hz => own_down (h2 z hz) hB, h3⟩
theorem KeptZ.sl {B : Nat} {v : Value} {K : List (Int × Int × List Ln)} {w : World} (h : KeptZ B v K w) : ∃ A c Z, v = .slice A Z.length c ∧ SlZ w A Z ∧ Z.map Sz.key = K := by
  obtain ⟨Z, h1, h2, h3⟩ := h
  obtain ⟨A, c, e, _, hs⟩ := own_sl encZ_len h1
  refine ⟨A, c, Z, e, ⟨hs, fun z hz => ?_⟩, h3⟩
  obtain ⟨A', c', e', _, hs'⟩ := own_sl encL_len (h2 z hz)
  injection e' with e1 e2 e3
  subst e1
  exact hs'
theorem key_len {Z : List Sz} {K : List (Int × Int × List Ln)} (h : Z.map Sz.key = K) : Z.length = K.length := by rw [← h, List.length_map]
/-- One slip more. -/
theorem KeptZ.more {B : Nat} {v v' : Value} {Z : List Sz} {z : Sz} {w w' : World} (h2 : ∀ x ∈ Z, OwnL B (.slice x.A x.ls.length x.c) x.ls w) (hz : OwnL B (.slice z.A z.ls.length z.c) z.ls w) (h1 : OwnZ B v Z w) (ho : OwnZ B v' (Z ++ [z]) w') (hg : w.grownBy w' v.ownBlock) : KeptZ B v' (Z.map Sz.key ++ [z.key]) w' := by
  refine ⟨Z ++ [z], ho, fun x hx => ?_, by simp⟩
  have hx' : OwnL B (.slice x.A x.ls.length x.c) x.ls w := by
    rcases List.mem_append.1 hx with h | h
    · exact h2 x h
    · rw [List.mem_singleton.1 h]; exact hz
  exact hx'.kept hg (own_apart hx' h1 (by decide))
set_option maxHeartbeats 4000000 in
set_option maxRecDepth 100000 in
theorem dy_Keep (Z : List Sz) (A : Option Addr) (cap : Nat) (y i : Int) (w : World) (hn : Z.length ≤ 1000000) (hr : RoomZ Z) (hs : SlZ w A Z) :
    Calls Tryz.prog 29 #[.slice A Z.length cap, .int .i64 y, .int .i64 i] w fun e w' => (∃ v, e = .returned v ∧ KeptZ w.heap.size v ((Z.map Sz.key).filter (aheadK y i)) w') ∧ Below w.heap.size w w' := by
  have HS := Lib.hid hs
  have HR := Lib.hid hr
  clear hs hr
  go_enter Tryz.func29, Tryz.ntmps29
  go_wp2
  go_loopw [7, 12] (fun ov iv wr => ∃ k : Nat, k ≤ Z.length ∧ iv = .int .i64 k ∧ Hid (KeptZ w.heap.size ov (((Z.take k).map Sz.key).filter (aheadK y i)) wr) ∧ Hid (Below w.heap.size w wr)) (fun _ iv _ => Z.length - (intOf iv).toNat)
  case atStart => exact ⟨0, Nat.zero_le _, rfl, Lib.hid ⟨[], Own.nil _, by simp, rfl⟩, Lib.hid (Below.refl _ _)⟩
  case round =>
    obtain ⟨k, hk, rfl, HO, HB⟩ := hrel
    by_cases hlt : k < Z.length
    · obtain ⟨z, hz⟩ : ∃ x, Z[k]? = some x := ⟨_, List.getElem?_eq_getElem hlt⟩
      obtain ⟨b, off, rfl, hbl, hat⟩ := HS.out.1 (by intro h; simp [h] at hlt)
      have hat2 : ∀ j u, (encZ z)[j]? = some u → wr.cell? ⟨b, off + k * 3 + j, none⟩ = some u := fun j u hu => bCell HB.out (hat k _ hz j u hu)
      have G0 := hat2 0 _ rfl
      have G1 := hat2 1 _ rfl
      have G2 := hat2 2 _ rfl
      simp only [Nat.add_zero] at G0
      have HT := Lib.hid (ahead_take (y := y) (i := i) hz)
      have HLN := Lib.hid (HS.out.2 z (List.mem_of_getElem? hz))
      have HRO := Lib.hid (HR.out z (List.mem_of_getElem? hz))
      have hlt2 : (k : Int) < (Z.length : Int) := by omega
      obtain ⟨kb, hkb⟩ : ∃ x, wr.heap.size = x := ⟨_, rfl⟩
      obtain ⟨w4, hw4⟩ : ∃ x, wr.alloc (.cells #[.int .i64 z.y, .int .i64 z.i, .slice z.A z.ls.length z.c] 60) = x := ⟨_, rfl⟩
      have HK4 : Hid (Bk kb 60 #[.int .i64 z.y, .int .i64 z.i, .slice z.A z.ls.length z.c] w4) := Lib.hid (by rw [← hw4, ← hkb]; exact Bk.new _ _ _)
      have HO4 : Hid (KeptZ w.heap.size u7 (((Z.take k).map Sz.key).filter (aheadK y i)) w4) := Lib.hid (by rw [← hw4]; exact HO.out.below (bAlloc _ _))
      have HB4 : Hid (Below w.heap.size w w4) := Lib.hid (by rw [← hw4]; exact bTrans HB.out (bAlloc wr _))
      have HKB : Hid (w.heap.size ≤ kb) := Lib.hid (by rw [← hkb]; exact HB.out.size)
      have HNE : Hid (u7.ownBlock = none ∨ u7.ownBlock ≠ some kb) := Lib.hid (by
        obtain ⟨Z0, z1, _, _⟩ := HO.out
        refine .inr fun he => ?_
        have := (z1.lt he).2
        omega)
      have HE := Lib.hid (And.intro hkb hw4)
      obtain ⟨ah, hah⟩ : ∃ x, aheadK y i z.key = x := ⟨_, rfl⟩
      rw [hah] at HT
      have HAH := Lib.hid hah
      clear hat hat2 hz hkb hw4 HO HB hah
      go_upto_region 5 with fail
      rw [HE.out.1, HE.out.2]
      clear G0 G1 G2 HE
      have F0 : w4.cell? ⟨kb, 0, none⟩ = some (.int .i64 z.y) := HK4.out.cell 0
      have F1 : w4.cell? ⟨kb, 1, none⟩ = some (.int .i64 z.i) := HK4.out.cell 1
      go_cut [31] from 16 to 31 (fun q wx => q = .bool ah ∧ w4 = wx)
      case first =>
        obtain ⟨x1, b1⟩ : ∃ x, decide (z.y < y) = x := ⟨_, rfl⟩
        obtain ⟨x2, b2⟩ : ∃ x, (z.y == y) = x := ⟨_, rfl⟩
        obtain ⟨x3, b3⟩ : ∃ x, decide (z.i < i) = x := ⟨_, rfl⟩
        have HX : Hid (ah = (x1 || (x2 && x3))) := Lib.hid (by
          rw [← HAH.out, ← b1, ← b2, ← b3]
          unfold aheadK Sz.key
          by_cases k1 : z.y < y <;> by_cases k2 : z.y = y <;> by_cases k3 : z.i < i <;> simp [k1, k2, k3])
        cases x1 <;> cases x2 <;> cases x3
        all_goals
          go_wp2
          go_meet
          exact ⟨by rw [HX.out]; rfl, rfl⟩
      case rest =>
        obtain ⟨rfl, rfl⟩ := hcut
        cases ah with
        | false =>
          have HC3 : Hid (((Z.take (k + 1)).map Sz.key).filter (aheadK y i) = ((Z.take k).map Sz.key).filter (aheadK y i)) := Lib.hid (by rw [HT.out, if_neg (by simp), List.append_nil])
          go_wp2
          exact ⟨⟨k + 1, by omega, by go_num, Lib.hid (by rw [HC3.out]; exact HO4.out), HB4⟩, by simp [intOf]; omega⟩
        | true =>
          have HC3 : Hid (((Z.take (k + 1)).map Sz.key).filter (aheadK y i) = ((Z.take k).map Sz.key).filter (aheadK y i) ++ [z.key]) := Lib.hid (by rw [HT.out, if_pos rfl])
          have F2 : w4.cell? ⟨kb, 2, none⟩ = some (.slice z.A z.ls.length z.c) := HK4.out.cell 2
          have HCL := Lib.hid (dy_Clone z.ls z.A z.c w4 (room_max HRO.out) HRO.out (sl_bel HLN.out HB4.out))
          go_wp2_with fail
          refine HCL.out.mono ?_
          rintro e w5 ⟨⟨A', c', rfl, ho5⟩, hb5⟩
          have HL5 : Hid (OwnL w.heap.size (.slice A' z.ls.length c') z.ls w5) := Lib.hid (own_down ho5 HB4.out.size)
          have HK5 : Hid (Bk kb 60 #[.int .i64 z.y, .int .i64 z.i, .slice z.A z.ls.length z.c] w5) := Lib.hid ((hb5.block kb HK4.out.lt).trans HK4.out)
          have HO5 := Lib.hid (HO4.out.below hb5)
          have HB5 := Lib.hid (bTrans HB4.out hb5)
          have E0 : w5.cell? ⟨kb, 0, none⟩ = some (.int .i64 z.y) := HK5.out.cell 0
          have E1 : w5.cell? ⟨kb, 1, none⟩ = some (.int .i64 z.i) := HK5.out.cell 1
          have E2 : w5.cell? ⟨kb, 2, none⟩ = some (.slice z.A z.ls.length z.c) := HK5.out.cell 2
          have E3 : w5.frozen? ⟨kb, 2, none⟩ = false := HK5.out.frozen 2
          obtain ⟨w6, hw6⟩ : ∃ x, w5.setCell ⟨kb, 2, none⟩ (.slice A' z.ls.length c') = x := ⟨_, rfl⟩
          have HK6 : Hid (Bk kb 60 #[.int .i64 z.y, .int .i64 z.i, .slice A' z.ls.length c'] w6) := Lib.hid (by rw [← hw6]; exact HK5.out.set_ 2 _)
          have HB6 : Hid (Below w.heap.size w w6) := Lib.hid (by rw [← hw6]; exact HB5.out.setCell (p := ⟨kb, 2, none⟩) HKB.out _)
          have HG6 : w5.grownBy w6 (some kb) := by rw [← hw6]; exact gSet w5 2 _
          have hnl : ∀ {v : Value} {l : List Ln}, OwnL w.heap.size v l w5 → v.ownBlock = none ∨ v.ownBlock ≠ some kb := fun h => .inr fun he => h.ne_ HK5.out (by decide) he.symm
          obtain ⟨Z0, z1, z2, z3⟩ := HO5.out
          have HZ1 : Hid (OwnZ w.heap.size u7 Z0 w6) := Lib.hid (z1.kept HG6 HNE.out)
          have HZ2 : Hid (∀ x ∈ Z0, OwnL w.heap.size (.slice x.A x.ls.length x.c) x.ls w6) := Lib.hid fun x hx => (z2 x hx).kept HG6 (hnl (z2 x hx))
          have HL6 : Hid (OwnL w.heap.size (.slice A' z.ls.length c') z.ls w6) := Lib.hid (HL5.out.kept HG6 (hnl HL5.out))
          have HZ3 := Lib.hid z3
          have HLE : Z0.length + 1 ≤ 1000000000 := by
            have h1 := key_len z3
            have h2 := List.length_filter_le (aheadK y i) ((Z.take k).map Sz.key)
            rw [List.length_map, List.length_take] at h2
            omega
          have HE6 := Lib.hid hw6
          clear HCL F0 F1 F2 hb5 ho5 z1 z2 z3 HG6 hnl hw6
          go_upto_region 7 with fail
          rw [HE6.out]
          clear E0 E1 E2 E3 HE6
          have E0 : w6.cell? ⟨kb, 0, none⟩ = some (.int .i64 z.y) := HK6.out.cell 0
          have E1 : w6.cell? ⟨kb, 1, none⟩ = some (.int .i64 z.i) := HK6.out.cell 1
          have E2 : w6.cell? ⟨kb, 2, none⟩ = some (.slice A' z.ls.length c') := HK6.out.cell 2
          go_wp2_with ((at_builtin; refine wpList_append_row encZ_len encZ_one rfl _ _ 56 rfl w.heap.size 60 _ 40 Tryz.underlying56 slipInfo rfl (by decide) _ Z0 ⟨z.y, z.i, A', c', z.ls⟩ rfl (HZ1.out.alloc _) w6.heap.size 1 rfl (newsZ ⟨z.y, z.i, A', c', z.ls⟩ w6) HLE (by decide) (Nat.le_trans HB6.out.size (Grows.of_alloc _ _).size) ?_))
          intro v7 w7 hown7 hgr7
          have HB7 : Hid (Below w.heap.size w w7) := Lib.hid (bel_own (bTrans HB6.out (bAlloc w6 _)) (Nat.le_trans HB6.out.size (Grows.of_alloc _ _).size) (HZ1.out.alloc _) hgr7)
          have HO7 : Hid (KeptZ w.heap.size v7 (((Z.take (k + 1)).map Sz.key).filter (aheadK y i)) w7) := Lib.hid (by
            rw [HC3.out, ← HZ3.out]
            exact KeptZ.more (z := ⟨z.y, z.i, A', c', z.ls⟩) (fun x hx => (HZ2.out x hx).alloc _) (HL6.out.alloc _) (HZ1.out.alloc _) hown7 hgr7)
          clear hown7 hgr7 E0 E1 E2
          go_wp2
          exact ⟨⟨k + 1, by omega, by go_num, HO7, HB7⟩, by simp [intOf]; omega⟩
    · obtain rfl : k = Z.length := by omega
      rw [List.take_length] at HO
      go_wp2
      go_ret
      exact ⟨⟨_, rfl, HO.out⟩, HB.out⟩
end Go.Proofs.YtgheloooibafcaaGreatDoor

namespace Go.Proofs.YtgheloooibafcaaGreatDoor
open Go.RowKit Go.Sort

theorem aheadZ_take {y i : Int} {Z : List Sz} {k : Nat} {z : Sz} (h : Z[k]? = some z) : ((Z.take (k + 1)).filter fun z => aheadK y i z.key) = ((Z.take k).filter fun z => aheadK y i z.key) ++ (if aheadK y i z.key = true then [z] else []) := by
  rw [List.take_add_one, h, List.filter_append]
  congr 1
  by_cases h0 : aheadK y i z.key = true <;> simp [h0]
set_option maxHeartbeats 4000000 in
set_option maxRecDepth 100000 in
theorem r32_Keep (Z : List Sz) (A : Option Addr) (cap : Nat) (y i : Int) (w : World) (hn : Z.length ≤ 1000000) (hs : Sl encZ 3 w w.heap.size A Z) :
    Calls Tryz.prog 30 #[.slice A Z.length cap, .int .i64 y, .int .i64 i] w fun e w' => (∃ v, e = .returned v ∧ OwnZ w.heap.size v (Z.filter fun z => aheadK y i z.key) w') ∧ Below w.heap.size w w' := by
  have HS := Lib.hid hs
  clear hs
  go_enter Tryz.func30, Tryz.ntmps30
  go_wp2
  go_loopw [7, 8] (fun ov iv wr => ∃ k : Nat, k ≤ Z.length ∧ iv = .int .i64 k ∧ Hid (OwnZ w.heap.size ov ((Z.take k).filter fun z => aheadK y i z.key) wr) ∧ Hid (Below w.heap.size w wr)) (fun _ iv _ => Z.length - (intOf iv).toNat)
  case atStart => exact ⟨0, Nat.zero_le _, rfl, Lib.hid (Own.nil _), Lib.hid (Below.refl _ _)⟩
  case round =>
    obtain ⟨k, hk, rfl, HO, HB⟩ := hrel
    by_cases hlt : k < Z.length
    · obtain ⟨z, hz⟩ : ∃ x, Z[k]? = some x := ⟨_, List.getElem?_eq_getElem hlt⟩
      obtain ⟨b, off, rfl, hbl, hat⟩ := HS.out (by intro h; simp [h] at hlt)
      have hat2 : ∀ j u, (encZ z)[j]? = some u → wr.cell? ⟨b, off + k * 3 + j, none⟩ = some u := fun j u hu => bCell HB.out (hat k _ hz j u hu)
      have G0 := hat2 0 _ rfl
      have G1 := hat2 1 _ rfl
      have G2 := hat2 2 _ rfl
      simp only [Nat.add_zero] at G0
      have HT := Lib.hid (aheadZ_take (y := y) (i := i) hz)
      have hlt2 : (k : Int) < (Z.length : Int) := by omega
      obtain ⟨ah, hah⟩ : ∃ x, aheadK y i z.key = x := ⟨_, rfl⟩
      rw [hah] at HT
      have HAH := Lib.hid hah
      have HLE : ((Z.take k).filter fun z => aheadK y i z.key).length + 1 ≤ 1000000000 := by have := List.length_filter_le (fun z => aheadK y i z.key) (Z.take k); rw [List.length_take] at this; omega
      obtain ⟨D, hD⟩ : ∃ d, ((Z.take k).filter fun z => aheadK y i z.key) = d := ⟨_, rfl⟩
      rw [hD] at HO HT HLE
      clear hat hat2 hz hah hD
      go_upto_region 5 with fail
      go_cut [39] from 15 to 39 (fun q wx => q = .bool ah ∧ wr = wx)
      case first =>
        obtain ⟨x1, b1⟩ : ∃ x, decide (z.y < y) = x := ⟨_, rfl⟩
        obtain ⟨x2, b2⟩ : ∃ x, (z.y == y) = x := ⟨_, rfl⟩
        obtain ⟨x3, b3⟩ : ∃ x, decide (z.i < i) = x := ⟨_, rfl⟩
        have HX : Hid (ah = (x1 || (x2 && x3))) := Lib.hid (by
          rw [← HAH.out, ← b1, ← b2, ← b3]
          unfold aheadK Sz.key
          by_cases k1 : z.y < y <;> by_cases k2 : z.y = y <;> by_cases k3 : z.i < i <;> simp [k1, k2, k3])
        cases x1 <;> cases x2 <;> cases x3
        all_goals
          go_wp2
          go_meet
          exact ⟨by rw [HX.out]; rfl, rfl⟩
      case rest =>
        obtain ⟨rfl, rfl⟩ := hcut
        cases ah with
        | false =>
          have HC3 : Hid (((Z.take (k + 1)).filter fun z => aheadK y i z.key) = D) := Lib.hid (by rw [HT.out, if_neg (by simp), List.append_nil])
          go_wp2
          exact ⟨⟨k + 1, by omega, by go_num, Lib.hid (by rw [HC3.out]; exact HO.out), HB⟩, by simp [intOf]; omega⟩
        | true =>
          have HC3 : Hid (((Z.take (k + 1)).filter fun z => aheadK y i z.key) = D ++ [z]) := Lib.hid (by rw [HT.out, if_pos rfl])
          go_wp2_with ((at_builtin; refine wpList_append_row encZ_len encZ_one rfl _ _ 56 rfl w.heap.size 60 _ 40 Tryz.underlying56 slipInfo rfl (by decide) _ D z rfl (HO.out.alloc _) wr.heap.size 1 rfl (newsZ z wr) HLE (by decide) (Nat.le_trans HB.out.size (Grows.of_alloc _ _).size) ?_))
          intro v7 w7 hown7 hgr7
          have HB7 : Hid (Below w.heap.size w w7) := Lib.hid (bel_own (bTrans HB.out (bAlloc wr _)) (Nat.le_trans HB.out.size (Grows.of_alloc _ _).size) (HO.out.alloc _) hgr7)
          have HO7 : Hid (OwnZ w.heap.size v7 ((Z.take (k + 1)).filter fun z => aheadK y i z.key) w7) := Lib.hid (by rw [HC3.out]; exact hown7)
          clear hown7 hgr7 G0 G1 G2
          go_wp2
          exact ⟨⟨k + 1, by omega, by go_num, HO7, HB7⟩, by simp [intOf]; omega⟩
    · obtain rfl : k = Z.length := by omega
      rw [List.take_length] at HO
      go_wp2
      go_ret
      exact ⟨⟨_, rfl, HO.out⟩, HB.out⟩
theorem run_neL (x : Ln) (w : World) : (binOp .neq 134 (.agg #[.int .i64 x.1, .string x.2.1, .int .i64 x.2.2]) (.agg #[.int .i64 x.1, .string x.2.1, .int .i64 x.2.2])).run Tryz.prog w = .ok (.bool false) w := by
  go_simp
set_option maxHeartbeats 2000000 in
set_option maxRecDepth 100000 in
theorem r27_Same (y i : Int) (L : List Ln) (A B : Option Addr) (ca cb : Nat) (w : World) (hA : SlL w A L) (hB : SlL w B L) (hn : L.length ≤ 1000000) :
    Calls Tryz.prog 31 #[.agg #[.int .i64 y, .int .i64 i, .slice A L.length ca], .agg #[.int .i64 y, .int .i64 i, .slice B L.length cb]] w fun e w' => e = .returned (.bool true) ∧ Below w.heap.size w w' := by
  obtain ⟨ab, hab⟩ : ∃ x, w.heap.size = x := ⟨_, rfl⟩
  obtain ⟨bb, hbb⟩ : ∃ x, ab + 1 = x := ⟨_, rfl⟩
  obtain ⟨w2, hw2⟩ : ∃ x, (w.alloc (.cells #[.int .i64 y, .int .i64 i, .slice A L.length ca] 60)).alloc (.cells #[.int .i64 y, .int .i64 i, .slice B L.length cb] 60) = x := ⟨_, rfl⟩
  obtain ⟨k1, k2, k3⟩ := bk2 w _ _ _ hab hbb hw2
  have HC : Hid (∀ W, Below w2.heap.size w2 W → (W.cell? ⟨ab, 0, none⟩ = some (.int .i64 y) ∧ W.cell? ⟨ab, 1, none⟩ = some (.int .i64 i) ∧ W.cell? ⟨ab, 2, none⟩ = some (.slice A L.length ca)) ∧ (W.cell? ⟨bb, 0, none⟩ = some (.int .i64 y) ∧ W.cell? ⟨bb, 1, none⟩ = some (.int .i64 i) ∧ W.cell? ⟨bb, 2, none⟩ = some (.slice B L.length cb))) := Lib.hid fun W hW => ⟨⟨bCell hW (k1.cell 0), bCell hW (k1.cell 1), bCell hW (k1.cell 2)⟩, ⟨bCell hW (k2.cell 0), bCell hW (k2.cell 1), bCell hW (k2.cell 2)⟩⟩
  have HB2 := Lib.hid k3
  have HSA := Lib.hid (sl_bel hA k3)
  have HSB := Lib.hid (sl_bel hB k3)
  have HE2 := Lib.hid (And.intro hab (And.intro hbb hw2))
  have ny : (y != y) = false := by simp
  have ni : (i != i) = false := by simp
  have nl : (((L.length : Nat) : Int) != (L.length : Nat)) = false := by simp
  clear hA hB k1 k2 k3 hab hbb hw2
  go_enter Tryz.func31, Tryz.ntmps31
  go_upto_region 1 with fail
  rw [HE2.out.1, HE2.out.2.1, HE2.out.2.2]
  clear HE2
  obtain ⟨⟨c0, c1, c2⟩, ⟨d0, d1, d2⟩⟩ := HC.out w2 (Below.refl _ _)
  go_wp2
  clear c0 c1 c2 d0 d1 d2
  go_loopw [5] (fun iv wr => ∃ k : Nat, k ≤ L.length ∧ iv = .int .i64 k ∧ Hid (Below w2.heap.size w2 wr)) (fun iv _ => L.length - (intOf iv).toNat)
  case atStart => exact ⟨0, Nat.zero_le _, rfl, Lib.hid (Below.refl _ _)⟩
  case round =>
    obtain ⟨k, hk, rfl, HB⟩ := hrel
    obtain ⟨⟨c0, c1, c2⟩, ⟨d0, d1, d2⟩⟩ := HC.out wr HB.out
    by_cases hlt : k < L.length
    · obtain ⟨x, hx⟩ : ∃ z, L[k]? = some z := ⟨_, List.getElem?_eq_getElem hlt⟩
      obtain ⟨b1, o1, rfl, _, hat⟩ := HSA.out (by intro h; simp [h] at hlt)
      obtain ⟨b2, o2, rfl, _, hbt⟩ := HSB.out (by intro h; simp [h] at hlt)
      have E0 := bCell HB.out (hat k x hx 0 _ rfl)
      have E1 := bCell HB.out (hat k x hx 1 _ rfl)
      have E2 := bCell HB.out (hat k x hx 2 _ rfl)
      have F0 := bCell HB.out (hbt k x hx 0 _ rfl)
      have F1 := bCell HB.out (hbt k x hx 1 _ rfl)
      have F2 := bCell HB.out (hbt k x hx 2 _ rfl)
      simp only [Nat.add_zero] at E0 F0
      have hq : ∀ W : World, (binOp .neq 134 (.agg #[.int .i64 x.1, .string x.2.1, .int .i64 x.2.2]) (.agg #[.int .i64 x.1, .string x.2.1, .int .i64 x.2.2])).run Tryz.prog W = .ok (.bool false) W := run_neL x
      have hlt2 : (k : Int) < (L.length : Int) := by omega
      clear hat hbt hx
      go_wp2_with fail
      go_quiet (fail)
      clear E0 E1 E2 F0 F1 F2 c0 c1 c2 d0 d1 d2 hq
      go_wp2
      exact ⟨⟨k + 1, by omega, by go_num, Lib.hid (bTrans HB.out (bDrewN _ _))⟩, by simp [intOf]; omega⟩
    · obtain rfl : k = L.length := by omega
      go_wp2
      go_ret
      exact ⟨rfl, bTrans HB2.out HB.out⟩
end Go.Proofs.YtgheloooibafcaaGreatDoor
