/- The statement TaxSteps: its walk. -/
import Derived.Test.YtkpfjabeppdjlaaTaxA
import Derived.Test.YtkpfjabeppdjlaaBlk
namespace Go.Proofs.Ytkpfjabeppdjlaa
open Go.RowKit

/-- A card in a list of cards: its allowance, what is withheld besides, its bands' slice, what it reads as. -/
structure Cd where
  al : Int
  ex : Int
  A : Option Addr
  cap : Nat
  t : List (Int × Int)
def encCard (c : Cd) : List Value := [.int .i64 c.al, .int .i64 c.ex, .slice c.A c.t.length c.cap]
def encCent (x : Int) : List Value := [.int .i64 x]
def CardsOk (w : World) (B : Nat) (cs : List Cd) : Prop := ∀ c ∈ cs, c.t.length ≤ 9223372036854775807 ∧ Sl encBand 2 w B c.A c.t
theorem CardsOk.below {w w' : World} {B : Nat} {cs : List Cd} (h : CardsOk w B cs) (hb : Below B w w') : CardsOk w' B cs := fun c hc => ⟨(h c hc).1, (h c hc).2.below hb⟩

set_option maxRecDepth 100000 in
set_option maxHeartbeats 2000000 in
theorem steps_walk (base paid of : Int) (AL AC : Option Addr) (capl capc : Nat) (l : List Int) (cs : List Cd) (w : World) (hl : l.length ≤ 9223372036854775807) (hc : cs.length ≤ 9223372036854775807)
    (hL : Sl encCent 1 w w.heap.size AL l) (hC : Sl encCard 3 w w.heap.size AC cs) (hok : CardsOk w w.heap.size cs) :
    Calls Try.prog 3 #[.int .i64 base, .int .i64 paid, .int .i64 of, .slice AL l.length capl, .slice AC cs.length capc] w fun e w' => e = .returned (.bool true) ∧ Below w.heap.size w w' := by
  have b0 := Below.refl w.heap.size w
  by_cases g1 : 60 < l.length
  · go_enter Try.func3, Try.ntmps3
    go_wp2_with fail
    refine (law24_awake _).mono ?_
    rintro e w2 ⟨rfl, hb2⟩
    go_wp2_with fail
    go_ret
    exact ⟨rfl, hb2⟩
  by_cases g2 : cs.length = 0
  · have g3 : ((cs.length : Int) == 0) = true := by simp [g2]
    clear g2
    go_enter Try.func3, Try.ntmps3
    go_wp2_with fail
    refine (law24_awake _).mono ?_
    rintro e w2 ⟨rfl, hb2⟩
    go_wp2_with fail
    go_ret
    exact ⟨rfl, hb2⟩
  have g3 : ((cs.length : Int) == 0) = false := by rw [beq_eq_false_iff_ne]; omega
  have g2' : 0 < cs.length := by omega
  clear g2
  by_cases g4 : 10 < cs.length
  · go_enter Try.func3, Try.ntmps3
    go_wp2_with fail
    refine (law24_awake _).mono ?_
    rintro e w2 ⟨rfl, hb2⟩
    go_wp2_with fail
    go_ret
    exact ⟨rfl, hb2⟩
  have hL2 := Lib.hid hL
  have hC2 := Lib.hid hC
  have hok2 := Lib.hid hok
  clear hL hC hok
  go_enter Try.func3, Try.ntmps3
  go_wp2_with fail
  go_loopw [40] (fun i wr => ∃ k : Nat, k ≤ cs.length ∧ i = .int .i64 k ∧ Below w.heap.size w wr) (fun i _ => cs.length - (intOf i).toNat)
  case atStart => exact ⟨0, Nat.zero_le _, rfl, b0⟩
  case round =>
    obtain ⟨k, hk, rfl, hB⟩ := hrel
    by_cases hlt : k < cs.length
    · obtain ⟨b, off, rfl, hb, hcell⟩ := hC2.out (by intro h; simp [h] at hlt)
      have hx := List.getElem?_eq_getElem hlt
      have C0 : wr.cell? ⟨b, off + k * 3, none⟩ = some (.int .i64 cs[k].al) := (hB.cell hb).trans (by simpa using hcell k _ hx 0 _ rfl)
      have C1 : wr.cell? ⟨b, off + k * 3 + 1, none⟩ = some (.int .i64 cs[k].ex) := (hB.cell hb).trans (hcell k _ hx 1 _ rfl)
      have C2 : wr.cell? ⟨b, off + k * 3 + 2, none⟩ = some (.slice cs[k].A cs[k].t.length cs[k].cap) := (hB.cell hb).trans (hcell k _ hx 2 _ rfl)
      have hT := (hok2.out cs[k] (List.getElem_mem hlt)).1
      generalize cs[k] = c at *
      clear hcell hx
      go_wp2_with fail
      · refine (law24_awake _).mono ?_
        rintro e w2 ⟨rfl, hb2⟩
        go_wp2_with fail
        go_ret
        exact ⟨rfl, (hB.alloc hB.size _).trans (hb2.mono (by have := hB.size; simp; omega))⟩
      · exact ⟨⟨k + 1, by omega, by go_num, hB.alloc hB.size _⟩, by simp [intOf]; omega⟩
    · obtain ⟨wo, rfl⟩ : ∃ wo : World, wo = wr := ⟨_, rfl⟩
      have hwz : w.heap.size ≤ wo.heap.size := hB.size
      go_wp2_with fail
      go_loopw [55] (fun i W => ∃ (k : Nat) (sb st : Int), k ≤ l.length ∧ i = .int .i64 k ∧ Below w.heap.size w W ∧ Blk W wo.heap.size 30 #[.int .i64 sb, .int .i64 st]) (fun i _ => l.length - (intOf i).toNat)
      case atStart => exact ⟨0, base, paid, Nat.zero_le _, rfl, hB.alloc hB.size _, Blk.new wo _ _⟩
      case round =>
        obtain ⟨m, sb, st, hm, rfl, hBW, hS⟩ := hrel
        by_cases hlt2 : m < l.length
        · obtain ⟨b, off, rfl, hb, hcell⟩ := hC2.out (by intro h; simp [h] at g2')
          obtain ⟨b', off', rfl, hb', hcell'⟩ := hL2.out (by intro h; simp [h] at hlt2)
          have hjl : m % cs.length < cs.length := Nat.mod_lt _ g2'
          have hx := List.getElem?_eq_getElem hjl
          have hx' := List.getElem?_eq_getElem hlt2
          have C0 : wr.cell? ⟨b, off + m % cs.length * 3, none⟩ = some (.int .i64 cs[m % cs.length].al) := (hBW.cell hb).trans (by simpa using hcell _ _ hx 0 _ rfl)
          have C1 : wr.cell? ⟨b, off + m % cs.length * 3 + 1, none⟩ = some (.int .i64 cs[m % cs.length].ex) := (hBW.cell hb).trans (hcell _ _ hx 1 _ rfl)
          have C2 : wr.cell? ⟨b, off + m % cs.length * 3 + 2, none⟩ = some (.slice cs[m % cs.length].A cs[m % cs.length].t.length cs[m % cs.length].cap) := (hBW.cell hb).trans (hcell _ _ hx 2 _ rfl)
          have D0 : wr.cell? ⟨b', off' + m, none⟩ = some (.int .i64 l[m]) := (hBW.cell hb').trans (by simpa using hcell' _ _ hx' 0 _ rfl)
          obtain ⟨hT, hbs⟩ := hok2.out cs[m % cs.length] (List.getElem_mem hjl)
          generalize cs[m % cs.length] = c at *
          generalize l[m] = x at *
          have SN := Lib.hid (fun W (h : Below w.heap.size w W) => (hbs.below h).more h.size)
          have s0 := hS.cell 0
          have s1 := hS.cell 1
          simp at s0 s1
          have HS := Lib.hid hS
          have hz1 := HS.out.lt
          have jm0 : (0 : Int) ≤ (m : Int) % (cs.length : Int) := Int.emod_nonneg _ (by omega)
          have jm1 : (m : Int) % (cs.length : Int) < (cs.length : Int) := Int.emod_lt_of_pos _ (by omega)
          clear hcell hx hcell' hx' hbs hS
          have yc : Blk (wr.alloc (.cells #[.int .i64 c.al, .int .i64 c.ex, .slice c.A c.t.length c.cap] 28)) wr.heap.size 28 #[.int .i64 c.al, .int .i64 c.ex, .slice c.A c.t.length c.cap] := Blk.new wr _ _
          have bel1 : Below w.heap.size w (wr.alloc (.cells #[.int .i64 c.al, .int .i64 c.ex, .slice c.A c.t.length c.cap] 28)) := hBW.alloc hBW.size _
          have YC := Lib.hid yc
          clear yc
          go_wp2_with fail
          refine (tax_Step sb st x (m + 1) of c.al c.ex c.A c.cap c.t _ hT (SN.out _ bel1)).mono ?_
          rintro e w2 ⟨rfl, hb2⟩
          have bel2 : Below w.heap.size w w2 := bel1.trans (hb2.mono bel1.size)
          have HS2 := (HS.out.alloc (.cells #[.int .i64 c.al, .int .i64 c.ex, .slice c.A c.t.length c.cap] 28)).keep hb2
          have YC2 := YC.out.keep hb2
          have k1 : wo.heap.size < w2.heap.size := HS2.lt
          have k2 : wr.heap.size < w2.heap.size := YC2.lt
          have p0 := HS2.cell 0
          have p1 := HS2.cell 1
          have r0 := YC2.cell 0
          have r1 := YC2.cell 1
          have r2 := YC2.cell 2
          simp at p0 p1 r0 r1 r2
          have HS2' := Lib.hid HS2
          have YC2' := Lib.hid YC2
          clear HS2 YC2
          have HR := Lib.hid (fun W h => ref24_Step sb st x (m + 1) of c.al c.ex c.A c.cap c.t W hT (SN.out W h))
          generalize stepV sb st x (m + 1) of c.al c.ex c.t = v at *
          obtain ⟨⟨v1, v2⟩, ⟨v3, v4⟩⟩ := v
          dsimp only at *
          go_wp2_with fail
          refine (HR.out _ (bel2.alloc bel2.size _)).mono ?_
          rintro e w3 ⟨rfl, hb3⟩
          have HS3 := (HS2'.out.alloc (.cells #[.int .i64 v1, .int .i64 v2] 30)).keep hb3
          have YN3 := (Blk.new w2 30 #[.int .i64 v1, .int .i64 v2]).keep hb3
          have k3 : wo.heap.size < w3.heap.size := HS3.lt
          have k4 : w2.heap.size < w3.heap.size := YN3.lt
          have bel3 : Below w.heap.size w w3 := (bel2.alloc bel2.size _).trans (hb3.mono (by have := bel2.size; simp; omega))
          have p0' := HS3.cell 0
          have p1' := HS3.cell 1
          have f0 := HS3.frozen 0
          have f1 := HS3.frozen 1
          have n0 := YN3.cell 0
          have n1 := YN3.cell 1
          simp at p0' p1' n0 n1
          have HS3' := Lib.hid HS3
          clear HS3 YN3
          go_wp2_with fail
          refine ⟨⟨m + 1, v1, v2, by omega, by go_num, (bel3.setCell (p := ⟨wo.heap.size, 0, none⟩) hwz _).setCell (p := ⟨wo.heap.size, 1, none⟩) hwz _, ?_⟩, by simp [intOf]; omega⟩
          have := (HS3'.out.set_ 0 (.int .i64 v1)).set_ 1 (.int .i64 v2)
          simpa using this
        · go_wp2_with fail
          refine (law24_awake _).mono ?_
          rintro e w5 ⟨rfl, hb5⟩
          go_wp2_with fail
          go_ret
          exact ⟨rfl, hBW.trans (hb5.mono hBW.size)⟩
end Go.Proofs.Ytkpfjabeppdjlaa
