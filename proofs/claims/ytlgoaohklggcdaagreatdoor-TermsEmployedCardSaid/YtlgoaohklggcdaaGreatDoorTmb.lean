/- Merged from: Rt1 Tm5 Rn1 Rn2. -/
import Derived.Test.YtlgoaohklggcdaaGreatDoorTma
import Derived.Test.YtlgoaohklggcdaaGreatDoorWeek
import Derived.Lib.Hide
namespace Go.Proofs.YtlgoaohklggcdaaGreatDoor
open Go.RowKit Go.Sort

/-- An operation whose guard is not met, or was never asked. -/
theorem use_skip2 {P : Program} {ops : Array Oper} {Q : Exit → Act → World → Prop} {ks : List (Nat × Nat)} {a0 : Act} {w0 : World} {o : Oper} {i : Nat} {tbl : List (Nat × Sp)} {g e : Nat} {b : Bool} (hg : o.guard = some (g, b)) (he : (ops[g]?).bind (·.dst) = some e) (hw : waitsB .any ops o e = true) (hk : ks.all (fun p => !(p.1 == e)) = true) (h : ∀ v w, SPS tbl e v w → v = .bool (!b) ∨ v = undef) (hd : ∀ d, o.dst = some d → ∀ w, SPS tbl d undef w) : OpOkE P ops Q (SPS tbl) ks a0 w0 i o := by
  intro a w hb hs hdf hsp
  have h5 := h _ _ (hsp e hw fun j hj => by
    rw [List.all_eq_true] at hk
    have := hk (e, j) hj
    simp at this)
  refine .inr ⟨?_, fun d hdd => hd d hdd w⟩
  rw [Array.getD_eq_getD_getElem?] at h5
  cases h7 : a.tmps[e]? with
  | none => cases b <;> simp [Region.wanted, hg, yielded, he, h7]
  | some x =>
    rw [h7] at h5
    simp only [Option.getD_some] at h5
    rcases h5 with rfl | rfl <;> cases b <;> simp [Region.wanted, hg, yielded, he, h7, undef]
/-- A known fact, as the document's line has it. -/
def encR (x : Kn) : List Value := [.int .i64 x.1, .int .i64 x.2.fr, .int .i64 x.2.to, .int .i64 x.2.nu, .string x.2.tx]
theorem encR_len (x : Kn) : (encR x).length = 5 := rfl
theorem r10_Covers (x : Kn) (d : Int) (w : World) : Calls Tryz.prog 109 #[.agg #[.int .i64 x.1, .int .i64 x.2.fr, .int .i64 x.2.to, .int .i64 x.2.nu, .string x.2.tx], .int .i64 d] w fun e w' => e = .returned (.bool (inB x.2 d)) ∧ Grows w w' := by
  obtain ⟨x1, b1⟩ : ∃ z, decide (x.2.fr ≤ d) = z := ⟨_, rfl⟩
  obtain ⟨x2, b2⟩ : ∃ z, (x.2.to == 0) = z := ⟨_, rfl⟩
  obtain ⟨x3, b3⟩ : ∃ z, decide (d < x.2.to) = z := ⟨_, rfl⟩
  have HIN : Hid (inB x.2 d = (x1 && (x2 || x3))) := Lib.hid (by unfold inB; rw [b1, b2, b3])
  rw [HIN.out]
  clear HIN
  have HG := Lib.hid (Grows.of_alloc w (.cells #[.int .i64 x.1, .int .i64 x.2.fr, .int .i64 x.2.to, .int .i64 x.2.nu, .string x.2.tx] 78))
  go_enter Tryz.func109, Tryz.ntmps109
  cases x1 <;> cases x2 <;> cases x3
  all_goals
    go_wp2
    go_ret
    exact ⟨rfl, HG.out⟩
set_option maxHeartbeats 4000000 in
set_option maxRecDepth 100000 in
theorem r10_At (X : List Kn) (d : Int) (A : Option Addr) (cap : Nat) (w : World) (hn : X.length ≤ 1000000) (hs : Sl encR 5 w w.heap.size A X) :
    Calls Tryz.prog 60 #[.slice A X.length cap, .int .i64 d] w fun e w' => e = .returned (.int .i64 (plc X d X.length)) ∧ Below w.heap.size w w' := by
  have HS := Lib.hid hs
  clear hs
  go_enter Tryz.func60, Tryz.ntmps60
  go_wp2
  go_loopw [5, 6] (fun qv iv wr => ∃ k : Nat, k ≤ X.length ∧ iv = .int .i64 k ∧ (∃ q : Int, qv = .int .i64 q ∧ Hid (plc X d k = q)) ∧ Hid (Below w.heap.size w wr)) (fun _ iv _ => X.length - (intOf iv).toNat)
  case atStart => exact ⟨0, Nat.zero_le _, rfl, ⟨-1, rfl, Lib.hid rfl⟩, Lib.hid (Below.refl _ _)⟩
  case round =>
    obtain ⟨k, hk, rfl, ⟨q, rfl, HQ⟩, HB⟩ := hrel
    by_cases hlt : k < X.length
    · obtain ⟨x, hx⟩ : ∃ x, X[k]? = some x := ⟨_, List.getElem?_eq_getElem hlt⟩
      obtain ⟨b, off, rfl, hbl, hat⟩ := HS.out (by intro h; simp [h] at hlt)
      have HAT : Hid (∀ W, Below wr.heap.size wr W → ∀ (i : Nat) (y : Kn), X[i]? = some y → W.cell? ⟨b, off + i * 5, none⟩ = some (.int .i64 y.1) ∧ W.cell? ⟨b, off + i * 5 + 1, none⟩ = some (.int .i64 y.2.fr) ∧ W.cell? ⟨b, off + i * 5 + 2, none⟩ = some (.int .i64 y.2.to) ∧ W.cell? ⟨b, off + i * 5 + 3, none⟩ = some (.int .i64 y.2.nu) ∧ W.cell? ⟨b, off + i * 5 + 4, none⟩ = some (.string y.2.tx)) := Lib.hid fun W hW i y hy => by
        have hbw := bTrans HB.out hW
        exact ⟨bCell hbw (hat i y hy 0 _ rfl), bCell hbw (hat i y hy 1 _ rfl), bCell hbw (hat i y hy 2 _ rfl), bCell hbw (hat i y hy 3 _ rfl), bCell hbw (hat i y hy 4 _ rfl)⟩
      have hlt2 : (k : Int) < (X.length : Int) := by omega
      have HPS := Lib.hid (plc_succ (d := d) hx)
      rw [HQ.out] at HPS
      have hqb : q = -1 ∨ ∃ j : Nat, q = j ∧ j < k ∧ j < X.length := by rw [← HQ.out]; exact plc_bd X d k
      have HCV := Lib.hid (fun W => r10_Covers x d W)
      obtain ⟨ib, hib⟩ : ∃ z, inB x.2 d = z := ⟨_, rfl⟩
      rw [hib] at HCV HPS
      have HX := Lib.hid hx
      obtain ⟨cn, hcn⟩ : ∃ z, (ib && (decide (q < 0) || decide (nAt X q < x.1))) = z := ⟨_, rfl⟩
      rw [hcn] at HPS
      have HCN := Lib.hid hcn
      clear hat hx hib hcn
      go_upto_region 5 with fail
      go_cut [35] from 13 to 35 (fun qq wx => qq = .bool cn ∧ Hid (Below wr.heap.size wr wx))
      case first =>
        cases ib with
        | false =>
          obtain rfl : cn = false := by rw [← HCN.out]; rfl
          refine wp_region_use (SPS [(0, Sp.val (.slice (some ⟨b, off, none⟩) X.length cap)), (1, Sp.val (.int .i64 d)), (6, Sp.val (.int .i64 k)), (15, Sp.val (.pointer (some ⟨b, off + k * 5, none⟩))), (16, Sp.val (.agg #[.int .i64 x.1, .int .i64 x.2.fr, .int .i64 x.2.to, .int .i64 x.2.nu, .string x.2.tx])), (5, Sp.val (.int .i64 q)), (18, Sp.val (.bool false)), (13, Sp.val (.slice (some ⟨b, off, none⟩) X.length cap)), (14, Sp.val (.int .i64 k)), (17, Sp.val (.int .i64 d)), (19, Sp.val (.bool false)), (20, Sp.val (undef)), (21, Sp.val (undef)), (22, Sp.val (undef)), (23, Sp.val (undef)), (24, Sp.val (undef)), (25, Sp.val (undef)), (26, Sp.val (undef)), (27, Sp.val (undef)), (28, Sp.val (undef)), (29, Sp.val (undef)), (30, Sp.val (undef)), (31, Sp.val (undef)), (32, Sp.val (undef)), (33, Sp.val (undef)), (34, Sp.val (undef)), (35, Sp.val (.bool false))]) [] [13, 14, 15, 16, 17, 18, 19, 20, 21, 22, 23, 24, 25, 26, 27, 28, 29, 30, 31, 32, 33, 34, 35] rfl (by rfl) (by kernel_rfl) (SPS.st _) (by rfl) ?_ (opsK_all ?_) ?_
          · exact sps_start (cons_all rfl (cons_all rfl (cons_all rfl (cons_all rfl (nil_all)))))
          · refine opsK_cons (by
             exact use_s [] (opOk_move rfl rfl (.inl rfl) (by kernel_rfl) (fun _ _ h => sps rfl (h.get rfl))) (by kernel_rfl) (by rfl)) ?_
            refine opsK_cons (by
             exact use_s [] (opOk_move rfl rfl (.inl rfl) (by kernel_rfl) (fun _ _ h => sps rfl (h.get rfl))) (by kernel_rfl) (by rfl)) ?_
            refine opsK_cons (by
             exact use_s [] (opOk_run rfl (.inl rfl) (fun a W hW hsp => by
                have e13 : a.eval (.tmp 13) = .slice (some ⟨b, off, none⟩) X.length cap := (hsp 13 (by kernel_rfl)).get rfl
                have e14 : a.eval (.tmp 14) = .int .i64 k := (hsp 14 (by kernel_rfl)).get rfl
                refine ⟨.pointer (some ⟨b, off + k * 5, none⟩), ?_, sps rfl rfl⟩
                unfold execOp
                simp only [e13, e14]
                go_simp)) (by kernel_rfl) (by rfl)) ?_
            refine opsK_cons (by
             exact use_s [] (opOk_load (p := ⟨b, off + k * 5, none⟩) rfl rfl (.inl rfl) (by kernel_rfl) (fun _ _ h => h.get rfl) (fun W hW => by
                obtain ⟨k0, k1, k2, k3, k4⟩ := HAT.out _ hW k x HX.out
                exact ⟨.agg #[.int .i64 x.1, .int .i64 x.2.fr, .int .i64 x.2.to, .int .i64 x.2.nu, .string x.2.tx], by go_simp, sps rfl rfl⟩)) (by kernel_rfl) (by rfl)) ?_
            refine opsK_cons (by
             exact use_s [] (opOk_move rfl rfl (.inl rfl) (by kernel_rfl) (fun _ _ h => sps rfl (h.get rfl))) (by kernel_rfl) (by rfl)) ?_
            refine opsK_cons (by
             exact use_s [] (opOk_callg (fun a => #[a.eval (.tmp 16), a.eval (.tmp 17)]) rfl rfl (.inl rfl) (fun a => by simp only [List.map_toArray, List.map_cons, List.map_nil] <;> rfl) (fun args W => by go_simp) (fun a W hW hsp => by
                have e16 : a.eval (.tmp 16) = .agg #[.int .i64 x.1, .int .i64 x.2.fr, .int .i64 x.2.to, .int .i64 x.2.nu, .string x.2.tx] := (hsp 16 (by kernel_rfl)).get rfl
                have e17 : a.eval (.tmp 17) = .int .i64 d := (hsp 17 (by kernel_rfl)).get rfl
                simp only [e16, e17]
                exact (HCV.out _).mono fun e w' ⟨he, hb⟩ => ⟨_, he, hb.below, sps rfl rfl⟩)) (by kernel_rfl) (by rfl)) ?_
            refine opsK_cons (by
             exact use_s [] (opOk_move rfl rfl (.inl rfl) (by kernel_rfl) (fun _ _ h => sps rfl (h.get rfl))) (by kernel_rfl) (by rfl)) ?_
            refine opsK_cons (by
             exact use_skip2 rfl rfl (by kernel_rfl) (by rfl) (fun _ _ h => by first | exact .inl (h.get rfl) | exact .inr (h.get rfl)) (fun d hd W => by cases hd; exact sps rfl rfl)) ?_
            refine opsK_cons (by
             exact use_skip2 rfl rfl (by kernel_rfl) (by rfl) (fun _ _ h => by first | exact .inl (h.get rfl) | exact .inr (h.get rfl)) (fun d hd W => by cases hd; exact sps rfl rfl)) ?_
            refine opsK_cons (by
             exact use_skip2 rfl rfl (by kernel_rfl) (by rfl) (fun _ _ h => by first | exact .inl (h.get rfl) | exact .inr (h.get rfl)) (fun d hd W => by cases hd; exact sps rfl rfl)) ?_
            refine opsK_cons (by
             exact use_skip2 rfl rfl (by kernel_rfl) (by rfl) (fun _ _ h => by first | exact .inl (h.get rfl) | exact .inr (h.get rfl)) (fun d hd W => by cases hd; exact sps rfl rfl)) ?_
            refine opsK_cons (by
             exact use_skip2 rfl rfl (by kernel_rfl) (by rfl) (fun _ _ h => by first | exact .inl (h.get rfl) | exact .inr (h.get rfl)) (fun d hd W => by cases hd; exact sps rfl rfl)) ?_
            refine opsK_cons (by
             exact use_skip2 rfl rfl (by kernel_rfl) (by rfl) (fun _ _ h => by first | exact .inl (h.get rfl) | exact .inr (h.get rfl)) (fun d hd W => by cases hd; exact sps rfl rfl)) ?_
            refine opsK_cons (by
             exact use_skip2 rfl rfl (by kernel_rfl) (by rfl) (fun _ _ h => by first | exact .inl (h.get rfl) | exact .inr (h.get rfl)) (fun d hd W => by cases hd; exact sps rfl rfl)) ?_
            refine opsK_cons (by
             exact use_skip2 rfl rfl (by kernel_rfl) (by rfl) (fun _ _ h => by first | exact .inl (h.get rfl) | exact .inr (h.get rfl)) (fun d hd W => by cases hd; exact sps rfl rfl)) ?_
            refine opsK_cons (by
             exact use_skip2 rfl rfl (by kernel_rfl) (by rfl) (fun _ _ h => by first | exact .inl (h.get rfl) | exact .inr (h.get rfl)) (fun d hd W => by cases hd; exact sps rfl rfl)) ?_
            refine opsK_cons (by
             exact use_skip2 rfl rfl (by kernel_rfl) (by rfl) (fun _ _ h => by first | exact .inl (h.get rfl) | exact .inr (h.get rfl)) (fun d hd W => by cases hd; exact sps rfl rfl)) ?_
            refine opsK_cons (by
             exact use_skip2 rfl rfl (by kernel_rfl) (by rfl) (fun _ _ h => by first | exact .inl (h.get rfl) | exact .inr (h.get rfl)) (fun d hd W => by cases hd; exact sps rfl rfl)) ?_
            refine opsK_cons (by
             exact use_skip2 rfl rfl (by kernel_rfl) (by rfl) (fun _ _ h => by first | exact .inl (h.get rfl) | exact .inr (h.get rfl)) (fun d hd W => by cases hd; exact sps rfl rfl)) ?_
            refine opsK_cons (by
             exact use_skip2 rfl rfl (by kernel_rfl) (by rfl) (fun _ _ h => by first | exact .inl (h.get rfl) | exact .inr (h.get rfl)) (fun d hd W => by cases hd; exact sps rfl rfl)) ?_
            refine opsK_cons (by
             exact use_skip2 rfl rfl (by kernel_rfl) (by rfl) (fun _ _ h => by first | exact .inl (h.get rfl) | exact .inr (h.get rfl)) (fun d hd W => by cases hd; exact sps rfl rfl)) ?_
            refine opsK_cons (by
             exact use_skip2 rfl rfl (by kernel_rfl) (by rfl) (fun _ _ h => by first | exact .inl (h.get rfl) | exact .inr (h.get rfl)) (fun d hd W => by cases hd; exact sps rfl rfl)) ?_
            refine opsK_cons (by
             exact use_s [] (opOk_run rfl (.inl rfl) (fun a W hW hsp => by
                have e19 : a.eval (.tmp 19) = .bool false := (hsp 19 (by kernel_rfl)).get rfl
                have e34 : a.eval (.tmp 34) = undef := (hsp 34 (by kernel_rfl)).get rfl
                refine ⟨.bool false, ?_, sps rfl rfl⟩
                unfold execOp
                simp only [e19, e34]
                go_simp)) (by kernel_rfl) (by rfl)) ?_
            exact opsK_nil
          · intro vs W1 hb hsp
            have z35 := (hsp 35 (by simp)).get rfl
            simp only [putAll]
            go_simp
            go_step
            go_meet
            exact ⟨by first | rfl | exact z35, Lib.hid hb⟩
        | true =>
          rcases hqb with rfl | ⟨j, rfl, hj1, hj2⟩
          · obtain rfl : cn = true := by rw [← HCN.out]; simp
            refine wp_region_use (SPS [(0, Sp.val (.slice (some ⟨b, off, none⟩) X.length cap)), (1, Sp.val (.int .i64 d)), (6, Sp.val (.int .i64 k)), (15, Sp.val (.pointer (some ⟨b, off + k * 5, none⟩))), (16, Sp.val (.agg #[.int .i64 x.1, .int .i64 x.2.fr, .int .i64 x.2.to, .int .i64 x.2.nu, .string x.2.tx])), (5, Sp.val (.int .i64 (-1))), (18, Sp.val (.bool true)), (21, Sp.val (.bool true)), (13, Sp.val (.slice (some ⟨b, off, none⟩) X.length cap)), (14, Sp.val (.int .i64 k)), (17, Sp.val (.int .i64 d)), (19, Sp.val (.bool true)), (20, Sp.val (.int .i64 (-1))), (22, Sp.val (.bool true)), (23, Sp.val (undef)), (24, Sp.val (undef)), (25, Sp.val (undef)), (26, Sp.val (undef)), (27, Sp.val (undef)), (28, Sp.val (undef)), (29, Sp.val (undef)), (30, Sp.val (undef)), (31, Sp.val (undef)), (32, Sp.val (undef)), (33, Sp.val (undef)), (34, Sp.val (.bool true)), (35, Sp.val (.bool true))]) [] [13, 14, 15, 16, 17, 18, 19, 20, 21, 22, 23, 24, 25, 26, 27, 28, 29, 30, 31, 32, 33, 34, 35] rfl (by rfl) (by kernel_rfl) (SPS.st _) (by rfl) ?_ (opsK_all ?_) ?_
            · exact sps_start (cons_all rfl (cons_all rfl (cons_all rfl (cons_all rfl (nil_all)))))
            · refine opsK_cons (by
               exact use_s [] (opOk_move rfl rfl (.inl rfl) (by kernel_rfl) (fun _ _ h => sps rfl (h.get rfl))) (by kernel_rfl) (by rfl)) ?_
              refine opsK_cons (by
               exact use_s [] (opOk_move rfl rfl (.inl rfl) (by kernel_rfl) (fun _ _ h => sps rfl (h.get rfl))) (by kernel_rfl) (by rfl)) ?_
              refine opsK_cons (by
               exact use_s [] (opOk_run rfl (.inl rfl) (fun a W hW hsp => by
                  have e13 : a.eval (.tmp 13) = .slice (some ⟨b, off, none⟩) X.length cap := (hsp 13 (by kernel_rfl)).get rfl
                  have e14 : a.eval (.tmp 14) = .int .i64 k := (hsp 14 (by kernel_rfl)).get rfl
                  refine ⟨.pointer (some ⟨b, off + k * 5, none⟩), ?_, sps rfl rfl⟩
                  unfold execOp
                  simp only [e13, e14]
                  go_simp)) (by kernel_rfl) (by rfl)) ?_
              refine opsK_cons (by
               exact use_s [] (opOk_load (p := ⟨b, off + k * 5, none⟩) rfl rfl (.inl rfl) (by kernel_rfl) (fun _ _ h => h.get rfl) (fun W hW => by
                  obtain ⟨k0, k1, k2, k3, k4⟩ := HAT.out _ hW k x HX.out
                  exact ⟨.agg #[.int .i64 x.1, .int .i64 x.2.fr, .int .i64 x.2.to, .int .i64 x.2.nu, .string x.2.tx], by go_simp, sps rfl rfl⟩)) (by kernel_rfl) (by rfl)) ?_
              refine opsK_cons (by
               exact use_s [] (opOk_move rfl rfl (.inl rfl) (by kernel_rfl) (fun _ _ h => sps rfl (h.get rfl))) (by kernel_rfl) (by rfl)) ?_
              refine opsK_cons (by
               exact use_s [] (opOk_callg (fun a => #[a.eval (.tmp 16), a.eval (.tmp 17)]) rfl rfl (.inl rfl) (fun a => by simp only [List.map_toArray, List.map_cons, List.map_nil] <;> rfl) (fun args W => by go_simp) (fun a W hW hsp => by
                  have e16 : a.eval (.tmp 16) = .agg #[.int .i64 x.1, .int .i64 x.2.fr, .int .i64 x.2.to, .int .i64 x.2.nu, .string x.2.tx] := (hsp 16 (by kernel_rfl)).get rfl
                  have e17 : a.eval (.tmp 17) = .int .i64 d := (hsp 17 (by kernel_rfl)).get rfl
                  simp only [e16, e17]
                  exact (HCV.out _).mono fun e w' ⟨he, hb⟩ => ⟨_, he, hb.below, sps rfl rfl⟩)) (by kernel_rfl) (by rfl)) ?_
              refine opsK_cons (by
               exact use_s [] (opOk_move rfl rfl (.inl rfl) (by kernel_rfl) (fun _ _ h => sps rfl (h.get rfl))) (by kernel_rfl) (by rfl)) ?_
              refine opsK_cons (by
               exact use_s [] (opOk_move rfl rfl (.inr ⟨6, 19, true, rfl, rfl, (by kernel_rfl), fun _ _ h => h.get rfl⟩) (by kernel_rfl) (fun _ _ h => sps rfl (h.get rfl))) (by kernel_rfl) (by rfl)) ?_
              refine opsK_cons (by
               exact use_s [] (opOk_run rfl (.inr ⟨6, 19, true, rfl, rfl, (by kernel_rfl), fun _ _ h => h.get rfl⟩) (fun a W hW hsp => by
                  have e20 : a.eval (.tmp 20) = .int .i64 (-1) := (hsp 20 (by kernel_rfl)).get rfl
                  refine ⟨.bool true, ?_, sps rfl rfl⟩
                  unfold execOp
                  simp only [e20]
                  go_simp)) (by kernel_rfl) (by rfl)) ?_
              refine opsK_cons (by
               exact use_s [] (opOk_move rfl rfl (.inr ⟨6, 19, true, rfl, rfl, (by kernel_rfl), fun _ _ h => h.get rfl⟩) (by kernel_rfl) (fun _ _ h => sps rfl (h.get rfl))) (by kernel_rfl) (by rfl)) ?_
              refine opsK_cons (by
               exact use_skip2 rfl rfl (by kernel_rfl) (by rfl) (fun _ _ h => by first | exact .inl (h.get rfl) | exact .inr (h.get rfl)) (fun d hd W => by cases hd; exact sps rfl rfl)) ?_
              refine opsK_cons (by
               exact use_skip2 rfl rfl (by kernel_rfl) (by rfl) (fun _ _ h => by first | exact .inl (h.get rfl) | exact .inr (h.get rfl)) (fun d hd W => by cases hd; exact sps rfl rfl)) ?_
              refine opsK_cons (by
               exact use_skip2 rfl rfl (by kernel_rfl) (by rfl) (fun _ _ h => by first | exact .inl (h.get rfl) | exact .inr (h.get rfl)) (fun d hd W => by cases hd; exact sps rfl rfl)) ?_
              refine opsK_cons (by
               exact use_skip2 rfl rfl (by kernel_rfl) (by rfl) (fun _ _ h => by first | exact .inl (h.get rfl) | exact .inr (h.get rfl)) (fun d hd W => by cases hd; exact sps rfl rfl)) ?_
              refine opsK_cons (by
               exact use_skip2 rfl rfl (by kernel_rfl) (by rfl) (fun _ _ h => by first | exact .inl (h.get rfl) | exact .inr (h.get rfl)) (fun d hd W => by cases hd; exact sps rfl rfl)) ?_
              refine opsK_cons (by
               exact use_skip2 rfl rfl (by kernel_rfl) (by rfl) (fun _ _ h => by first | exact .inl (h.get rfl) | exact .inr (h.get rfl)) (fun d hd W => by cases hd; exact sps rfl rfl)) ?_
              refine opsK_cons (by
               exact use_skip2 rfl rfl (by kernel_rfl) (by rfl) (fun _ _ h => by first | exact .inl (h.get rfl) | exact .inr (h.get rfl)) (fun d hd W => by cases hd; exact sps rfl rfl)) ?_
              refine opsK_cons (by
               exact use_skip2 rfl rfl (by kernel_rfl) (by rfl) (fun _ _ h => by first | exact .inl (h.get rfl) | exact .inr (h.get rfl)) (fun d hd W => by cases hd; exact sps rfl rfl)) ?_
              refine opsK_cons (by
               exact use_skip2 rfl rfl (by kernel_rfl) (by rfl) (fun _ _ h => by first | exact .inl (h.get rfl) | exact .inr (h.get rfl)) (fun d hd W => by cases hd; exact sps rfl rfl)) ?_
              refine opsK_cons (by
               exact use_skip2 rfl rfl (by kernel_rfl) (by rfl) (fun _ _ h => by first | exact .inl (h.get rfl) | exact .inr (h.get rfl)) (fun d hd W => by cases hd; exact sps rfl rfl)) ?_
              refine opsK_cons (by
               exact use_skip2 rfl rfl (by kernel_rfl) (by rfl) (fun _ _ h => by first | exact .inl (h.get rfl) | exact .inr (h.get rfl)) (fun d hd W => by cases hd; exact sps rfl rfl)) ?_
              refine opsK_cons (by
               exact use_s [] (opOk_run rfl (.inr ⟨6, 19, true, rfl, rfl, (by kernel_rfl), fun _ _ h => h.get rfl⟩) (fun a W hW hsp => by
                  have e22 : a.eval (.tmp 22) = .bool true := (hsp 22 (by kernel_rfl)).get rfl
                  have e33 : a.eval (.tmp 33) = undef := (hsp 33 (by kernel_rfl)).get rfl
                  refine ⟨.bool true, ?_, sps rfl rfl⟩
                  unfold execOp
                  simp only [e22, e33]
                  go_simp)) (by kernel_rfl) (by rfl)) ?_
              refine opsK_cons (by
               exact use_s [] (opOk_run rfl (.inl rfl) (fun a W hW hsp => by
                  have e19 : a.eval (.tmp 19) = .bool true := (hsp 19 (by kernel_rfl)).get rfl
                  have e34 : a.eval (.tmp 34) = .bool true := (hsp 34 (by kernel_rfl)).get rfl
                  refine ⟨.bool true, ?_, sps rfl rfl⟩
                  unfold execOp
                  simp only [e19, e34]
                  go_simp)) (by kernel_rfl) (by rfl)) ?_
              exact opsK_nil
            · intro vs W1 hb hsp
              have z35 := (hsp 35 (by simp)).get rfl
              simp only [putAll]
              go_simp
              go_step
              go_meet
              exact ⟨by first | rfl | exact z35, Lib.hid hb⟩
          · obtain ⟨y, hy⟩ : ∃ y, X[j]? = some y := ⟨_, List.getElem?_eq_getElem hj2⟩
            have HY := Lib.hid hy
            have hj3 : (j : Int) < (X.length : Int) := by omega
            have hc5 : decide (y.1 < x.1) = cn := by
              rw [← HCN.out]
              unfold nAt
              rw [Int.toNat_natCast, hy]
              simp
              omega
            clear hy
            refine wp_region_use (SPS [(0, Sp.val (.slice (some ⟨b, off, none⟩) X.length cap)), (1, Sp.val (.int .i64 d)), (6, Sp.val (.int .i64 k)), (15, Sp.val (.pointer (some ⟨b, off + k * 5, none⟩))), (16, Sp.val (.agg #[.int .i64 x.1, .int .i64 x.2.fr, .int .i64 x.2.to, .int .i64 x.2.nu, .string x.2.tx])), (5, Sp.val (.int .i64 j)), (18, Sp.val (.bool true)), (21, Sp.val (.bool false)), (25, Sp.val (.pointer (some ⟨b, off + k * 5, none⟩))), (26, Sp.val (.pointer (some ⟨b, off + k * 5, none⟩))), (27, Sp.val (.int .i64 x.1)), (30, Sp.val (.pointer (some ⟨b, off + j * 5, none⟩))), (31, Sp.val (.pointer (some ⟨b, off + j * 5, none⟩))), (32, Sp.val (.int .i64 y.1)), (33, Sp.val (.bool cn)), (13, Sp.val (.slice (some ⟨b, off, none⟩) X.length cap)), (14, Sp.val (.int .i64 k)), (17, Sp.val (.int .i64 d)), (19, Sp.val (.bool true)), (20, Sp.val (.int .i64 j)), (22, Sp.val (.bool false)), (23, Sp.val (.slice (some ⟨b, off, none⟩) X.length cap)), (24, Sp.val (.int .i64 k)), (28, Sp.val (.slice (some ⟨b, off, none⟩) X.length cap)), (29, Sp.val (.int .i64 j)), (34, Sp.val (.bool cn)), (35, Sp.val (.bool cn))]) [] [13, 14, 15, 16, 17, 18, 19, 20, 21, 22, 23, 24, 25, 26, 27, 28, 29, 30, 31, 32, 33, 34, 35] rfl (by rfl) (by kernel_rfl) (SPS.st _) (by rfl) ?_ (opsK_all ?_) ?_
            · exact sps_start (cons_all rfl (cons_all rfl (cons_all rfl (cons_all rfl (nil_all)))))
            · refine opsK_cons (by
               exact use_s [] (opOk_move rfl rfl (.inl rfl) (by kernel_rfl) (fun _ _ h => sps rfl (h.get rfl))) (by kernel_rfl) (by rfl)) ?_
              refine opsK_cons (by
               exact use_s [] (opOk_move rfl rfl (.inl rfl) (by kernel_rfl) (fun _ _ h => sps rfl (h.get rfl))) (by kernel_rfl) (by rfl)) ?_
              refine opsK_cons (by
               exact use_s [] (opOk_run rfl (.inl rfl) (fun a W hW hsp => by
                  have e13 : a.eval (.tmp 13) = .slice (some ⟨b, off, none⟩) X.length cap := (hsp 13 (by kernel_rfl)).get rfl
                  have e14 : a.eval (.tmp 14) = .int .i64 k := (hsp 14 (by kernel_rfl)).get rfl
                  refine ⟨.pointer (some ⟨b, off + k * 5, none⟩), ?_, sps rfl rfl⟩
                  unfold execOp
                  simp only [e13, e14]
                  go_simp)) (by kernel_rfl) (by rfl)) ?_
              refine opsK_cons (by
               exact use_s [] (opOk_load (p := ⟨b, off + k * 5, none⟩) rfl rfl (.inl rfl) (by kernel_rfl) (fun _ _ h => h.get rfl) (fun W hW => by
                  obtain ⟨k0, k1, k2, k3, k4⟩ := HAT.out _ hW k x HX.out
                  exact ⟨.agg #[.int .i64 x.1, .int .i64 x.2.fr, .int .i64 x.2.to, .int .i64 x.2.nu, .string x.2.tx], by go_simp, sps rfl rfl⟩)) (by kernel_rfl) (by rfl)) ?_
              refine opsK_cons (by
               exact use_s [] (opOk_move rfl rfl (.inl rfl) (by kernel_rfl) (fun _ _ h => sps rfl (h.get rfl))) (by kernel_rfl) (by rfl)) ?_
              refine opsK_cons (by
               exact use_s [] (opOk_callg (fun a => #[a.eval (.tmp 16), a.eval (.tmp 17)]) rfl rfl (.inl rfl) (fun a => by simp only [List.map_toArray, List.map_cons, List.map_nil] <;> rfl) (fun args W => by go_simp) (fun a W hW hsp => by
                  have e16 : a.eval (.tmp 16) = .agg #[.int .i64 x.1, .int .i64 x.2.fr, .int .i64 x.2.to, .int .i64 x.2.nu, .string x.2.tx] := (hsp 16 (by kernel_rfl)).get rfl
                  have e17 : a.eval (.tmp 17) = .int .i64 d := (hsp 17 (by kernel_rfl)).get rfl
                  simp only [e16, e17]
                  exact (HCV.out _).mono fun e w' ⟨he, hb⟩ => ⟨_, he, hb.below, sps rfl rfl⟩)) (by kernel_rfl) (by rfl)) ?_
              refine opsK_cons (by
               exact use_s [] (opOk_move rfl rfl (.inl rfl) (by kernel_rfl) (fun _ _ h => sps rfl (h.get rfl))) (by kernel_rfl) (by rfl)) ?_
              refine opsK_cons (by
               exact use_s [] (opOk_move rfl rfl (.inr ⟨6, 19, true, rfl, rfl, (by kernel_rfl), fun _ _ h => h.get rfl⟩) (by kernel_rfl) (fun _ _ h => sps rfl (h.get rfl))) (by kernel_rfl) (by rfl)) ?_
              refine opsK_cons (by
               exact use_s [] (opOk_run rfl (.inr ⟨6, 19, true, rfl, rfl, (by kernel_rfl), fun _ _ h => h.get rfl⟩) (fun a W hW hsp => by
                  have e20 : a.eval (.tmp 20) = .int .i64 j := (hsp 20 (by kernel_rfl)).get rfl
                  refine ⟨.bool false, ?_, sps rfl rfl⟩
                  unfold execOp
                  simp only [e20]
                  go_simp)) (by kernel_rfl) (by rfl)) ?_
              refine opsK_cons (by
               exact use_s [] (opOk_move rfl rfl (.inr ⟨6, 19, true, rfl, rfl, (by kernel_rfl), fun _ _ h => h.get rfl⟩) (by kernel_rfl) (fun _ _ h => sps rfl (h.get rfl))) (by kernel_rfl) (by rfl)) ?_
              refine opsK_cons (by
               exact use_s [] (opOk_move rfl rfl (.inr ⟨9, 22, false, rfl, rfl, (by kernel_rfl), fun _ _ h => h.get rfl⟩) (by kernel_rfl) (fun _ _ h => sps rfl (h.get rfl))) (by kernel_rfl) (by rfl)) ?_
              refine opsK_cons (by
               exact use_s [] (opOk_move rfl rfl (.inr ⟨9, 22, false, rfl, rfl, (by kernel_rfl), fun _ _ h => h.get rfl⟩) (by kernel_rfl) (fun _ _ h => sps rfl (h.get rfl))) (by kernel_rfl) (by rfl)) ?_
              refine opsK_cons (by
               exact use_s [] (opOk_run rfl (.inr ⟨9, 22, false, rfl, rfl, (by kernel_rfl), fun _ _ h => h.get rfl⟩) (fun a W hW hsp => by
                  have e23 : a.eval (.tmp 23) = .slice (some ⟨b, off, none⟩) X.length cap := (hsp 23 (by kernel_rfl)).get rfl
                  have e24 : a.eval (.tmp 24) = .int .i64 k := (hsp 24 (by kernel_rfl)).get rfl
                  refine ⟨.pointer (some ⟨b, off + k * 5, none⟩), ?_, sps rfl rfl⟩
                  unfold execOp
                  simp only [e23, e24]
                  go_simp)) (by kernel_rfl) (by rfl)) ?_
              refine opsK_cons (by
               exact use_s [] (opOk_run rfl (.inr ⟨9, 22, false, rfl, rfl, (by kernel_rfl), fun _ _ h => h.get rfl⟩) (fun a W hW hsp => by
                  have e25 : a.eval (.tmp 25) = .pointer (some ⟨b, off + k * 5, none⟩) := (hsp 25 (by kernel_rfl)).get rfl
                  refine ⟨.pointer (some ⟨b, off + k * 5, none⟩), ?_, sps rfl rfl⟩
                  unfold execOp
                  simp only [e25]
                  go_simp)) (by kernel_rfl) (by rfl)) ?_
              refine opsK_cons (by
               exact use_s [] (opOk_load (p := ⟨b, off + k * 5, none⟩) rfl rfl (.inr ⟨9, 22, false, rfl, rfl, (by kernel_rfl), fun _ _ h => h.get rfl⟩) (by kernel_rfl) (fun _ _ h => h.get rfl) (fun W hW => by
                  obtain ⟨k0, k1, k2, k3, k4⟩ := HAT.out _ hW k x HX.out
                  exact ⟨.int .i64 x.1, by go_simp, sps rfl rfl⟩)) (by kernel_rfl) (by rfl)) ?_
              refine opsK_cons (by
               exact use_s [] (opOk_move rfl rfl (.inr ⟨9, 22, false, rfl, rfl, (by kernel_rfl), fun _ _ h => h.get rfl⟩) (by kernel_rfl) (fun _ _ h => sps rfl (h.get rfl))) (by kernel_rfl) (by rfl)) ?_
              refine opsK_cons (by
               exact use_s [] (opOk_move rfl rfl (.inr ⟨9, 22, false, rfl, rfl, (by kernel_rfl), fun _ _ h => h.get rfl⟩) (by kernel_rfl) (fun _ _ h => sps rfl (h.get rfl))) (by kernel_rfl) (by rfl)) ?_
              refine opsK_cons (by
               exact use_s [] (opOk_run rfl (.inr ⟨9, 22, false, rfl, rfl, (by kernel_rfl), fun _ _ h => h.get rfl⟩) (fun a W hW hsp => by
                  have e28 : a.eval (.tmp 28) = .slice (some ⟨b, off, none⟩) X.length cap := (hsp 28 (by kernel_rfl)).get rfl
                  have e29 : a.eval (.tmp 29) = .int .i64 j := (hsp 29 (by kernel_rfl)).get rfl
                  refine ⟨.pointer (some ⟨b, off + j * 5, none⟩), ?_, sps rfl rfl⟩
                  unfold execOp
                  simp only [e28, e29]
                  go_simp)) (by kernel_rfl) (by rfl)) ?_
              refine opsK_cons (by
               exact use_s [] (opOk_run rfl (.inr ⟨9, 22, false, rfl, rfl, (by kernel_rfl), fun _ _ h => h.get rfl⟩) (fun a W hW hsp => by
                  have e30 : a.eval (.tmp 30) = .pointer (some ⟨b, off + j * 5, none⟩) := (hsp 30 (by kernel_rfl)).get rfl
                  refine ⟨.pointer (some ⟨b, off + j * 5, none⟩), ?_, sps rfl rfl⟩
                  unfold execOp
                  simp only [e30]
                  go_simp)) (by kernel_rfl) (by rfl)) ?_
              refine opsK_cons (by
               exact use_s [] (opOk_load (p := ⟨b, off + j * 5, none⟩) rfl rfl (.inr ⟨9, 22, false, rfl, rfl, (by kernel_rfl), fun _ _ h => h.get rfl⟩) (by kernel_rfl) (fun _ _ h => h.get rfl) (fun W hW => by
                  obtain ⟨k0, k1, k2, k3, k4⟩ := HAT.out _ hW j y HY.out
                  exact ⟨.int .i64 y.1, by go_simp, sps rfl rfl⟩)) (by kernel_rfl) (by rfl)) ?_
              refine opsK_cons (by
               exact use_s [] (opOk_run rfl (.inr ⟨9, 22, false, rfl, rfl, (by kernel_rfl), fun _ _ h => h.get rfl⟩) (fun a W hW hsp => by
                  have e27 : a.eval (.tmp 27) = .int .i64 x.1 := (hsp 27 (by kernel_rfl)).get rfl
                  have e32 : a.eval (.tmp 32) = .int .i64 y.1 := (hsp 32 (by kernel_rfl)).get rfl
                  refine ⟨.bool cn, ?_, sps rfl rfl⟩
                  unfold execOp
                  simp only [e27, e32]
                  go_simp)) (by kernel_rfl) (by rfl)) ?_
              refine opsK_cons (by
               exact use_s [] (opOk_run rfl (.inr ⟨6, 19, true, rfl, rfl, (by kernel_rfl), fun _ _ h => h.get rfl⟩) (fun a W hW hsp => by
                  have e22 : a.eval (.tmp 22) = .bool false := (hsp 22 (by kernel_rfl)).get rfl
                  have e33 : a.eval (.tmp 33) = .bool cn := (hsp 33 (by kernel_rfl)).get rfl
                  refine ⟨.bool cn, ?_, sps rfl rfl⟩
                  unfold execOp
                  simp only [e22, e33]
                  go_simp)) (by kernel_rfl) (by rfl)) ?_
              refine opsK_cons (by
               exact use_s [] (opOk_run rfl (.inl rfl) (fun a W hW hsp => by
                  have e19 : a.eval (.tmp 19) = .bool true := (hsp 19 (by kernel_rfl)).get rfl
                  have e34 : a.eval (.tmp 34) = .bool cn := (hsp 34 (by kernel_rfl)).get rfl
                  refine ⟨.bool cn, ?_, sps rfl rfl⟩
                  unfold execOp
                  simp only [e19, e34]
                  go_simp)) (by kernel_rfl) (by rfl)) ?_
              exact opsK_nil
            · intro vs W1 hb hsp
              have z35 := (hsp 35 (by simp)).get rfl
              simp only [putAll]
              go_simp
              go_step
              go_meet
              exact ⟨by first | rfl | exact z35, Lib.hid hb⟩
      case rest =>
        obtain ⟨rfl, HX2⟩ := hcut
        have HBn := Lib.hid (bTrans HB.out HX2.out)
        cases cn with
        | false =>
          have HP2 : Hid (plc X d (k + 1) = q) := Lib.hid (by rw [HPS.out, if_neg (by simp)])
          go_wp2
          exact ⟨⟨k + 1, by omega, by go_num, ⟨q, rfl, HP2⟩, HBn⟩, by simp [intOf]; omega⟩
        | true =>
          have HP2 : Hid (plc X d (k + 1) = (k : Int)) := Lib.hid (by rw [HPS.out, if_pos rfl])
          go_wp2
          exact ⟨⟨k + 1, by omega, by go_num, ⟨(k : Int), rfl, HP2⟩, HBn⟩, by simp [intOf]; omega⟩
    · obtain rfl : k = X.length := by omega
      go_wp2
      go_ret
      exact ⟨ret_i HQ.out.symm, HB.out⟩
end Go.Proofs.YtlgoaohklggcdaaGreatDoor

namespace Go.Proofs.YtlgoaohklggcdaaGreatDoor
open Go.RowKit Go.Sort

/-- Terms of days. -/
structure Td where
  fr : Int
  «to» : Int
  em : Bool
  sa : Int
  pa : Int
  h : Nat → Int
  co : ByteArray
def tdC (x : Td) : Array Value := #[.int .i64 x.fr, .int .i64 x.to, .bool x.em, .int .i64 x.sa, .int .i64 x.pa, .int .i64 (x.h 0), .int .i64 (x.h 1), .int .i64 (x.h 2), .int .i64 (x.h 3), .int .i64 (x.h 4), .int .i64 (x.h 5), .int .i64 (x.h 6), .string x.co]
abbrev BkT (tb : Nat) (x : Td) (w : World) : Prop := Bk tb 50 (tdC x) w
theorem on_em (x : Td) (n nu : Int) (tx : ByteArray) (tb : Nat) (w : World) (hk : BkT tb x w) : Calls Tryz.prog 103 #[.agg #[.int .i64 n, .int .i64 nu, .string tx], .pointer (some ⟨tb, 0, none⟩)] w fun e w' => e = .returned (.tuple #[]) ∧ BkT tb { x with em := nu == 1 } w' ∧ w.grownBy w' (some tb) := by
  obtain ⟨vb, hvb⟩ : ∃ z, w.heap.size = z := ⟨_, rfl⟩
  obtain ⟨w2, hw2⟩ : ∃ z, w.alloc (.cells #[.int .i64 n, .int .i64 nu, .string tx] 150) = z := ⟨_, rfl⟩
  have hv : Bk vb 150 #[.int .i64 n, .int .i64 nu, .string tx] w2 := by rw [← hw2, ← hvb]; exact Bk.new _ _ _
  have hk2 : BkT tb x w2 := by rw [← hw2]; exact hk.grows (.of_alloc _ _)
  have V1 : w2.cell? ⟨vb, 1, none⟩ = some (.int .i64 nu) := hv.cell 1
  have V2 : w2.cell? ⟨vb, 2, none⟩ = some (.string tx) := hv.cell 2
  have T0 : w2.cell? ⟨tb, 2, none⟩ = (tdC x)[2]? := hk2.cell 2
  have F0 : w2.frozen? ⟨tb, 2, none⟩ = false := hk2.frozen 2
  have HFIN : Hid (BkT tb { x with em := nu == 1 } (w2.setCell ⟨tb, 2, none⟩ (.bool (nu == 1))) ∧ w.grownBy (w2.setCell ⟨tb, 2, none⟩ (.bool (nu == 1))) (some tb)) := Lib.hid ⟨hk2.set_ 2 (.bool (nu == 1)), by rw [← hw2]; exact grown_trans (World.grownBy_alloc w _ _) (gSet _ _ _)⟩
  have HE := Lib.hid (And.intro hvb hw2)
  simp only [tdC] at T0
  clear hvb hw2 hv hk2 hk
  go_enter Tryz.func103, Tryz.ntmps103
  go_upto_region 1 with fail
  rw [HE.out.1, HE.out.2]
  clear HE
  go_wp2
  go_end0
  exact ⟨rfl, HFIN.out⟩
theorem on_sa (x : Td) (n nu : Int) (tx : ByteArray) (tb : Nat) (w : World) (hk : BkT tb x w) : Calls Tryz.prog 104 #[.agg #[.int .i64 n, .int .i64 nu, .string tx], .pointer (some ⟨tb, 0, none⟩)] w fun e w' => e = .returned (.tuple #[]) ∧ BkT tb { x with sa := nu } w' ∧ w.grownBy w' (some tb) := by
  obtain ⟨vb, hvb⟩ : ∃ z, w.heap.size = z := ⟨_, rfl⟩
  obtain ⟨w2, hw2⟩ : ∃ z, w.alloc (.cells #[.int .i64 n, .int .i64 nu, .string tx] 150) = z := ⟨_, rfl⟩
  have hv : Bk vb 150 #[.int .i64 n, .int .i64 nu, .string tx] w2 := by rw [← hw2, ← hvb]; exact Bk.new _ _ _
  have hk2 : BkT tb x w2 := by rw [← hw2]; exact hk.grows (.of_alloc _ _)
  have V1 : w2.cell? ⟨vb, 1, none⟩ = some (.int .i64 nu) := hv.cell 1
  have V2 : w2.cell? ⟨vb, 2, none⟩ = some (.string tx) := hv.cell 2
  have T0 : w2.cell? ⟨tb, 3, none⟩ = (tdC x)[3]? := hk2.cell 3
  have F0 : w2.frozen? ⟨tb, 3, none⟩ = false := hk2.frozen 3
  have HFIN : Hid (BkT tb { x with sa := nu } (w2.setCell ⟨tb, 3, none⟩ (.int .i64 nu)) ∧ w.grownBy (w2.setCell ⟨tb, 3, none⟩ (.int .i64 nu)) (some tb)) := Lib.hid ⟨hk2.set_ 3 (.int .i64 nu), by rw [← hw2]; exact grown_trans (World.grownBy_alloc w _ _) (gSet _ _ _)⟩
  have HE := Lib.hid (And.intro hvb hw2)
  simp only [tdC] at T0
  clear hvb hw2 hv hk2 hk
  go_enter Tryz.func104, Tryz.ntmps104
  go_upto_region 1 with fail
  rw [HE.out.1, HE.out.2]
  clear HE
  go_wp2
  go_end0
  exact ⟨rfl, HFIN.out⟩
theorem on_pa (x : Td) (n nu : Int) (tx : ByteArray) (tb : Nat) (w : World) (hk : BkT tb x w) : Calls Tryz.prog 105 #[.agg #[.int .i64 n, .int .i64 nu, .string tx], .pointer (some ⟨tb, 0, none⟩)] w fun e w' => e = .returned (.tuple #[]) ∧ BkT tb { x with pa := nu } w' ∧ w.grownBy w' (some tb) := by
  obtain ⟨vb, hvb⟩ : ∃ z, w.heap.size = z := ⟨_, rfl⟩
  obtain ⟨w2, hw2⟩ : ∃ z, w.alloc (.cells #[.int .i64 n, .int .i64 nu, .string tx] 150) = z := ⟨_, rfl⟩
  have hv : Bk vb 150 #[.int .i64 n, .int .i64 nu, .string tx] w2 := by rw [← hw2, ← hvb]; exact Bk.new _ _ _
  have hk2 : BkT tb x w2 := by rw [← hw2]; exact hk.grows (.of_alloc _ _)
  have V1 : w2.cell? ⟨vb, 1, none⟩ = some (.int .i64 nu) := hv.cell 1
  have V2 : w2.cell? ⟨vb, 2, none⟩ = some (.string tx) := hv.cell 2
  have T0 : w2.cell? ⟨tb, 4, none⟩ = (tdC x)[4]? := hk2.cell 4
  have F0 : w2.frozen? ⟨tb, 4, none⟩ = false := hk2.frozen 4
  have HFIN : Hid (BkT tb { x with pa := nu } (w2.setCell ⟨tb, 4, none⟩ (.int .i64 nu)) ∧ w.grownBy (w2.setCell ⟨tb, 4, none⟩ (.int .i64 nu)) (some tb)) := Lib.hid ⟨hk2.set_ 4 (.int .i64 nu), by rw [← hw2]; exact grown_trans (World.grownBy_alloc w _ _) (gSet _ _ _)⟩
  have HE := Lib.hid (And.intro hvb hw2)
  simp only [tdC] at T0
  clear hvb hw2 hv hk2 hk
  go_enter Tryz.func105, Tryz.ntmps105
  go_upto_region 1 with fail
  rw [HE.out.1, HE.out.2]
  clear HE
  go_wp2
  go_end0
  exact ⟨rfl, HFIN.out⟩
theorem on_co (x : Td) (n nu : Int) (tx : ByteArray) (tb : Nat) (w : World) (hk : BkT tb x w) : Calls Tryz.prog 108 #[.agg #[.int .i64 n, .int .i64 nu, .string tx], .pointer (some ⟨tb, 0, none⟩)] w fun e w' => e = .returned (.tuple #[]) ∧ BkT tb { x with co := tx } w' ∧ w.grownBy w' (some tb) := by
  obtain ⟨vb, hvb⟩ : ∃ z, w.heap.size = z := ⟨_, rfl⟩
  obtain ⟨w2, hw2⟩ : ∃ z, w.alloc (.cells #[.int .i64 n, .int .i64 nu, .string tx] 150) = z := ⟨_, rfl⟩
  have hv : Bk vb 150 #[.int .i64 n, .int .i64 nu, .string tx] w2 := by rw [← hw2, ← hvb]; exact Bk.new _ _ _
  have hk2 : BkT tb x w2 := by rw [← hw2]; exact hk.grows (.of_alloc _ _)
  have V1 : w2.cell? ⟨vb, 1, none⟩ = some (.int .i64 nu) := hv.cell 1
  have V2 : w2.cell? ⟨vb, 2, none⟩ = some (.string tx) := hv.cell 2
  have T0 : w2.cell? ⟨tb, 12, none⟩ = (tdC x)[12]? := hk2.cell 12
  have F0 : w2.frozen? ⟨tb, 12, none⟩ = false := hk2.frozen 12
  have HFIN : Hid (BkT tb { x with co := tx } (w2.setCell ⟨tb, 12, none⟩ (.string tx)) ∧ w.grownBy (w2.setCell ⟨tb, 12, none⟩ (.string tx)) (some tb)) := Lib.hid ⟨hk2.set_ 12 (.string tx), by rw [← hw2]; exact grown_trans (World.grownBy_alloc w _ _) (gSet _ _ _)⟩
  have HE := Lib.hid (And.intro hvb hw2)
  simp only [tdC] at T0
  clear hvb hw2 hv hk2 hk
  go_enter Tryz.func108, Tryz.ntmps108
  go_upto_region 1 with fail
  rw [HE.out.1, HE.out.2]
  clear HE
  go_wp2
  go_end0
  exact ⟨rfl, HFIN.out⟩
set_option maxHeartbeats 2000000 in
theorem on_ho (x : Td) (n nu : Int) (tx : ByteArray) (tb : Nat) (w : World) (hk : BkT tb x w) (htx : tx.size ≤ 1000000) : Calls Tryz.prog 106 #[.agg #[.int .i64 n, .int .i64 nu, .string tx], .pointer (some ⟨tb, 0, none⟩)] w fun e w' => e = .returned (.tuple #[]) ∧ BkT tb { x with h := fun i => (weekV (ls tx)).getD i 0 } w' ∧ w.grownBy w' (some tb) := by
  obtain ⟨vb, hvb⟩ : ∃ z, w.heap.size = z := ⟨_, rfl⟩
  obtain ⟨w2, hw2⟩ : ∃ z, w.alloc (.cells #[.int .i64 n, .int .i64 nu, .string tx] 150) = z := ⟨_, rfl⟩
  have hv : Bk vb 150 #[.int .i64 n, .int .i64 nu, .string tx] w2 := by rw [← hw2, ← hvb]; exact Bk.new _ _ _
  have hk2 : BkT tb x w2 := by rw [← hw2]; exact hk.grows (.of_alloc _ _)
  have hb2 : Below w.heap.size w w2 := by rw [← hw2]; exact bAlloc _ _
  have V2 : w2.cell? ⟨vb, 2, none⟩ = some (.string tx) := hv.cell 2
  have HB2 := Lib.hid hb2
  have HK2 := Lib.hid hk2
  have HE := Lib.hid (And.intro hvb hw2)
  have HP := Lib.hid (wk_Parse tx w2 htx)
  unfold weekR w7 at HP
  obtain ⟨f, hf⟩ : ∃ f : Nat → Int, (fun i => (weekV (ls tx)).getD i 0) = f := ⟨_, rfl⟩
  have hfi : ∀ i, (weekV (ls tx)).getD i 0 = f i := fun i => by rw [← hf]
  simp only [hfi] at HP
  rw [hf]
  clear hvb hw2 hv hk2 hk hb2 hf hfi
  go_enter Tryz.func106, Tryz.ntmps106
  go_upto_region 1 with fail
  rw [HE.out.1, HE.out.2]
  clear HE
  go_wp2_with fail
  refine HP.out.mono ?_
  rintro e w3 ⟨rfl, hb3⟩
  have hk3 : BkT tb x w3 := (hb3.block tb HK2.out.lt).trans HK2.out
  have T5 : w3.cell? ⟨tb, 5, none⟩ = some (.int .i64 (x.h 0)) := hk3.cell 5
  have F5 : w3.frozen? ⟨tb, 5, none⟩ = false := hk3.frozen 5
  have T6 : w3.cell? ⟨tb, 6, none⟩ = some (.int .i64 (x.h 1)) := hk3.cell 6
  have F6 : w3.frozen? ⟨tb, 6, none⟩ = false := hk3.frozen 6
  have T7 : w3.cell? ⟨tb, 7, none⟩ = some (.int .i64 (x.h 2)) := hk3.cell 7
  have F7 : w3.frozen? ⟨tb, 7, none⟩ = false := hk3.frozen 7
  have T8 : w3.cell? ⟨tb, 8, none⟩ = some (.int .i64 (x.h 3)) := hk3.cell 8
  have F8 : w3.frozen? ⟨tb, 8, none⟩ = false := hk3.frozen 8
  have T9 : w3.cell? ⟨tb, 9, none⟩ = some (.int .i64 (x.h 4)) := hk3.cell 9
  have F9 : w3.frozen? ⟨tb, 9, none⟩ = false := hk3.frozen 9
  have T10 : w3.cell? ⟨tb, 10, none⟩ = some (.int .i64 (x.h 5)) := hk3.cell 10
  have F10 : w3.frozen? ⟨tb, 10, none⟩ = false := hk3.frozen 10
  have T11 : w3.cell? ⟨tb, 11, none⟩ = some (.int .i64 (x.h 6)) := hk3.cell 11
  have F11 : w3.frozen? ⟨tb, 11, none⟩ = false := hk3.frozen 11
  have hg3 : w.grownBy w3 (some tb) := gBelow (bTrans HB2.out hb3)
  have HFIN : Hid (BkT tb { x with h := f } (((((((w3.setCell ⟨tb, 5, none⟩ (.int .i64 (f 0))).setCell ⟨tb, 6, none⟩ (.int .i64 (f 1))).setCell ⟨tb, 7, none⟩ (.int .i64 (f 2))).setCell ⟨tb, 8, none⟩ (.int .i64 (f 3))).setCell ⟨tb, 9, none⟩ (.int .i64 (f 4))).setCell ⟨tb, 10, none⟩ (.int .i64 (f 5))).setCell ⟨tb, 11, none⟩ (.int .i64 (f 6))) ∧ w.grownBy (((((((w3.setCell ⟨tb, 5, none⟩ (.int .i64 (f 0))).setCell ⟨tb, 6, none⟩ (.int .i64 (f 1))).setCell ⟨tb, 7, none⟩ (.int .i64 (f 2))).setCell ⟨tb, 8, none⟩ (.int .i64 (f 3))).setCell ⟨tb, 9, none⟩ (.int .i64 (f 4))).setCell ⟨tb, 10, none⟩ (.int .i64 (f 5))).setCell ⟨tb, 11, none⟩ (.int .i64 (f 6))) (some tb)) := Lib.hid ⟨(((((((hk3.set_ 5 (.int .i64 (f 0))).set_ 6 (.int .i64 (f 1))).set_ 7 (.int .i64 (f 2))).set_ 8 (.int .i64 (f 3))).set_ 9 (.int .i64 (f 4))).set_ 10 (.int .i64 (f 5))).set_ 11 (.int .i64 (f 6))), (grown_trans (grown_trans (grown_trans (grown_trans (grown_trans (grown_trans (grown_trans hg3 (gSet _ _ _)) (gSet _ _ _)) (gSet _ _ _)) (gSet _ _ _)) (gSet _ _ _)) (gSet _ _ _)) (gSet _ _ _))⟩
  clear hk3 hg3 hb3 HP
  go_wp2
  go_end0
  exact ⟨rfl, HFIN.out⟩
end Go.Proofs.YtlgoaohklggcdaaGreatDoor

namespace Go.Proofs.YtlgoaohklggcdaaGreatDoor

/-- A span, cut into pieces that touch, each of them alike within, neighbours unlike. -/
def Runs (e : Int → Int → Bool) (T : Int) : Int → List (Int × Int) → Prop
  | F, [] => F = T
  | F, p :: L => p.1 = F ∧ F < p.2 ∧ (∀ d, F ≤ d → d < p.2 → e F d = true) ∧ Runs e T p.2 L ∧ (L ≠ [] → e F p.2 = false)
theorem Runs.le {e : Int → Int → Bool} {T : Int} : ∀ {L : List (Int × Int)} {F : Int}, Runs e T F L → F ≤ T
  | [], _, h => Int.le_of_eq h
  | p :: L, F, h => by
    have := Runs.le h.2.2.2.1
    have := h.2.1
    omega
theorem Runs.one {e : Int → Int → Bool} {T : Int} : ∀ {L M : List (Int × Int)} {F : Int}, Runs e T F L → Runs e T F M → L = M
  | [], [], _, _, _ => rfl
  | [], q :: M, F, h, k => by
    have h1 : F = T := h
    have := k.2.1
    have := Runs.le k.2.2.2.1
    omega
  | p :: L, [], F, h, k => by
    have h1 : F = T := k
    have := h.2.1
    have := Runs.le h.2.2.2.1
    omega
  | p :: L, q :: M, F, h, k => by
    obtain ⟨p1, p2⟩ := p
    obtain ⟨q1, q2⟩ := q
    obtain ⟨h1, h2, h3, h4, h5⟩ := h
    obtain ⟨k1, k2, k3, k4, k5⟩ := k
    simp only at h1 h2 h3 h4 h5 k1 k2 k3 k4 k5
    subst h1
    subst k1
    have e2 : p2 = q2 := by
      rcases Int.lt_trichotomy p2 q2 with hlt | he | hlt
      · have hL : L ≠ [] := by
          rintro rfl
          have h6 : p2 = T := h4
          have := Runs.le k4
          omega
        have := h5 hL
        rw [k3 p2 (by omega) hlt] at this
        cases this
      · exact he
      · have hM : M ≠ [] := by
          rintro rfl
          have h6 : q2 = T := k4
          have := Runs.le h4
          omega
        have := k5 hM
        rw [h3 q2 (by omega) hlt] at this
        cases this
    subst e2
    rw [Runs.one h4 k4]
/-- A piece more: to the last one, where it is alike. -/
def mrgS (e : Int → Int → Bool) : List (Int × Int) → Int × Int → List (Int × Int)
  | [], p => [p]
  | [q], p => if e q.1 p.1 = true then [(q.1, p.2)] else [q, p]
  | q :: r :: L, p => q :: mrgS e (r :: L) p
theorem mrgS_snoc (e : Int → Int → Bool) (q p : Int × Int) : ∀ L : List (Int × Int), mrgS e (L ++ [q]) p = if e q.1 p.1 = true then L ++ [(q.1, p.2)] else L ++ [q, p]
  | [] => rfl
  | [r] => by
    show r :: mrgS e [q] p = _
    unfold mrgS
    split <;> rfl
  | r :: s :: L => by
    show r :: mrgS e (s :: L ++ [q]) p = _
    rw [mrgS_snoc e q p (s :: L)]
    split <;> rfl
theorem mrgS_ne (e : Int → Int → Bool) (p : Int × Int) : ∀ L : List (Int × Int), mrgS e L p ≠ []
  | [] => by simp [mrgS]
  | [q] => by unfold mrgS; split <;> simp
  | q :: r :: L => by simp [mrgS]
theorem mrgS_len (e : Int → Int → Bool) (p : Int × Int) : ∀ L : List (Int × Int), (mrgS e L p).length ≤ L.length + 1
  | [] => by simp [mrgS]
  | [q] => by unfold mrgS; split <;> simp
  | q :: r :: L => by
    have := mrgS_len e p (r :: L)
    simp only [mrgS, List.length_cons] at this ⊢
    omega
theorem mrg_len (e : Int → Int → Bool) : ∀ P O : List (Int × Int), (P.foldl (mrgS e) O).length ≤ O.length + P.length
  | [], O => by simp
  | p :: P, O => by
    rw [List.foldl_cons]
    have h1 := mrg_len e P (mrgS e O p)
    have h2 := mrgS_len e p O
    simp only [List.length_cons]
    omega
structure Eqv (e : Int → Int → Bool) : Prop where
  refl : ∀ a, e a a = true
  symm : ∀ a b, e a b = e b a
  trans : ∀ a b c, e a b = true → e b c = true → e a c = true
theorem Eqv.of {β : Type} [DecidableEq β] (f : Int → β) : Eqv fun a b => decide (f a = f b) :=
  ⟨fun _ => by simp, fun a b => by by_cases h : f a = f b <;> simp [h, eq_comm], fun a b c h k => by simp at h k ⊢; rw [h, k]⟩
theorem Eqv.no {e : Int → Int → Bool} (he : Eqv e) {a b c : Int} (h : e a b = true) (k : e b c = false) : e a c = false := by
  cases h2 : e a c with
  | false => rfl
  | true =>
    rw [he.trans b a c (by rw [he.symm]; exact h) h2] at k
    exact k
theorem Runs.snoc {e : Int → Int → Bool} (he : Eqv e) {b c : Int} (hbc : b < c) (hc : ∀ d, b ≤ d → d < c → e b d = true) : ∀ {O : List (Int × Int)} {F : Int}, Runs e b F O → Runs e c F (mrgS e O (b, c))
  | [], F, h => by
    have h1 : F = b := h
    subst h1
    exact ⟨rfl, hbc, hc, rfl, fun h => absurd rfl h⟩
  | [q], F, h => by
    obtain ⟨q1, q2⟩ := q
    obtain ⟨h1, h2, h3, h4, _⟩ := h
    have h4 : q2 = b := h4
    simp only at h1 h2 h3
    subst h1
    subst h4
    unfold mrgS
    split
    · rename_i h6
      refine ⟨rfl, by simp only; omega, fun d h7 h8 => ?_, rfl, fun h => absurd rfl h⟩
      by_cases hd : d < q2
      · exact h3 d h7 hd
      · exact he.trans _ _ _ h6 (hc d (by omega) h8)
    · rename_i h6
      exact ⟨rfl, h2, h3, ⟨rfl, hbc, hc, rfl, fun h => absurd rfl h⟩, fun _ => by simpa using h6⟩
  | q :: r :: L, F, h => by
    obtain ⟨h1, h2, h3, h4, h5⟩ := h
    refine ⟨h1, h2, h3, Runs.snoc he hbc hc h4, fun _ => h5 (by simp)⟩
/-- Pieces that touch, one behind the other, each alike within. -/
def Chain (e : Int → Int → Bool) (T : Int) : Int → List (Int × Int) → Prop
  | F, [] => F = T
  | F, p :: L => p.1 = F ∧ F < p.2 ∧ (∀ d, F ≤ d → d < p.2 → e F d = true) ∧ Chain e T p.2 L
theorem Runs.chain {e : Int → Int → Bool} {T : Int} : ∀ {L : List (Int × Int)} {F : Int}, Runs e T F L → Chain e T F L
  | [], _, h => h
  | _ :: _, _, h => ⟨h.1, h.2.1, h.2.2.1, Runs.chain h.2.2.2.1⟩
theorem Chain.fold {e : Int → Int → Bool} (he : Eqv e) {T G : Int} : ∀ {P O : List (Int × Int)} {F : Int}, Chain e T F P → Runs e F G O → Runs e T G (P.foldl (mrgS e) O)
  | [], O, F, h, k => by
    have h1 : F = T := h
    subst h1
    exact k
  | p :: P, O, F, h, k => by
    obtain ⟨p1, p2⟩ := p
    obtain ⟨h1, h2, h3, h4⟩ := h
    simp only at h1 h2 h3 h4
    subst h1
    show Runs e T G (P.foldl (mrgS e) (mrgS e O (p1, p2)))
    exact Chain.fold he h4 (Runs.snoc he h2 h3 k)
theorem Chain.runs {e : Int → Int → Bool} (he : Eqv e) {F T : Int} {P : List (Int × Int)} (h : Chain e T F P) : Runs e T F (P.foldl (mrgS e) []) := Chain.fold he h (show F = F from rfl)
/-- Day by day. -/
def dayP (F : Int) : Nat → List (Int × Int)
  | 0 => []
  | n + 1 => (F, F + 1) :: dayP (F + 1) n
theorem dayP_chain {e : Int → Int → Bool} (he : Eqv e) : ∀ (n : Nat) (F : Int), Chain e (F + n) F (dayP F n)
  | 0, F => by show F = F + ((0 : Nat) : Int); simp
  | n + 1, F => by
    refine ⟨rfl, by simp only; omega, fun d h1 h2 => ?_, ?_⟩
    · have : F = d := by simp only at h2; omega
      rw [this]; exact he.refl d
    · have := dayP_chain he n (F + 1)
      have e1 : F + 1 + (n : Int) = F + ((n + 1 : Nat) : Int) := by omega
      rw [e1] at this
      exact this
theorem dayP_snoc : ∀ (n : Nat) (F : Int), dayP F (n + 1) = dayP F n ++ [(F + n, F + n + 1)]
  | 0, F => by simp [dayP]
  | n + 1, F => by
    rw [dayP, dayP_snoc n (F + 1)]
    have e1 : F + 1 + (n : Int) = F + ((n + 1 : Nat) : Int) := by omega
    rw [e1]
    rfl
theorem dayP_len : ∀ (n : Nat) (F : Int), (dayP F n).length = n
  | 0, _ => rfl
  | n + 1, F => by rw [dayP, List.length_cons, dayP_len n]
/-- The two spans' pieces, joined where they meet, are both spans' pieces. -/
theorem Runs.join {e : Int → Int → Bool} (he : Eqv e) {F b T : Int} {O P : List (Int × Int)} (h : Runs e b F O) (k : Runs e T b P) : Runs e T F (match P with
  | [] => O
  | p :: P => mrgS e O p ++ P) := by
  cases P with
  | nil =>
    have h1 : b = T := k
    subst h1
    exact h
  | cons p P =>
    have hk := k
    obtain ⟨p1, p2⟩ := p
    obtain ⟨k1, k2, k3, k4, k5⟩ := k
    simp only at k1 k2 k3 k4 k5
    subst k1
    -- by induction on the first pieces
    have key : ∀ (O : List (Int × Int)) (F : Int), Runs e p1 F O → Runs e T F (mrgS e O (p1, p2) ++ P) := by
      intro O
      induction O with
      | nil =>
        intro F h
        have h1 : F = p1 := h
        subst h1
        exact hk
      | cons q O ih =>
        intro F h
        obtain ⟨q1, q2⟩ := q
        obtain ⟨h1, h2, h3, h4, h5⟩ := h
        simp only at h1 h2 h3 h4 h5
        subst h1
        cases O with
        | nil =>
          have h4 : q2 = p1 := h4
          subst h4
          unfold mrgS
          split
          · rename_i h6
            refine ⟨rfl, by simp only; omega, fun d h7 h8 => ?_, k4, fun hP => ?_⟩
            · by_cases hd : d < q2
              · exact h3 d h7 hd
              · exact he.trans _ _ _ h6 (k3 d (by omega) h8)
            · exact he.no h6 (k5 hP)
          · rename_i h6
            exact ⟨rfl, h2, h3, hk, fun _ => by simpa using h6⟩
        | cons r O =>
          exact ⟨rfl, h2, h3, ih q2 h4, fun _ => h5 (by simp)⟩
    exact key O F h
end Go.Proofs.YtlgoaohklggcdaaGreatDoor

namespace Go.Proofs.YtlgoaohklggcdaaGreatDoor
open Go.RowKit Go.Sort

theorem inB_const {f : Fa} {a b : Int} (hab : a ≤ b) (h : ∀ c, a < c → c ≤ b → f.fr ≠ c ∧ f.to ≠ c) : inB f a = inB f b := by
  have h1 : decide (f.fr ≤ a) = decide (f.fr ≤ b) := decide_eq_decide.2 ⟨fun _ => by omega, fun _ => by
    by_cases hx : a < f.fr
    · exact absurd rfl (h f.fr hx (by assumption)).1
    · omega⟩
  have h2 : decide (a < f.to) = decide (b < f.to) := decide_eq_decide.2 ⟨fun hx => by
    by_cases hy : f.to ≤ b
    · exact absurd rfl (h f.to hx hy).2
    · omega, fun _ => by omega⟩
  unfold inB
  rw [h1, h2]
theorem plc_const {X : List Kn} {a b : Int} (hab : a ≤ b) (h : ∀ c, a < c → c ≤ b → ∀ x ∈ X, x.2.fr ≠ c ∧ x.2.to ≠ c) : ∀ k, plc X a k = plc X b k
  | 0 => rfl
  | k + 1 => by
    have ih := plc_const hab h k
    cases hx : X[k]? with
    | none => rw [plc, plc, hx]; exact ih
    | some x =>
      rw [plc_succ hx, plc_succ hx, ih, inB_const hab (fun c h1 h2 => h c h1 h2 x (List.mem_of_getElem? hx))]
theorem mem_ends {X : List Kn} {F T d : Int} : d ∈ endsL F T X ↔ (F < d ∧ d < T) ∧ ∃ x ∈ X, d = x.2.fr ∨ d = x.2.to := by
  unfold endsL
  rw [List.mem_flatMap]
  constructor
  · rintro ⟨x, hx, hd⟩
    rw [List.mem_filter] at hd
    obtain ⟨h1, h2⟩ := hd
    simp only [List.mem_cons, List.not_mem_nil, or_false] at h1
    unfold selB at h2
    simp at h2
    exact ⟨h2, x, hx, h1⟩
  · rintro ⟨h2, x, hx, h1⟩
    refine ⟨x, hx, List.mem_filter.2 ⟨by simpa using h1, ?_⟩⟩
    unfold selB
    simp [h2]
theorem mem_cutsL {X : List Kn} {F T d : Int} : d ∈ cutsL X F T ↔ (F < d ∧ d < T) ∧ ∃ x ∈ X, d = x.2.fr ∨ d = x.2.to := by
  unfold cutsL
  rw [mem_foldU]
  simp only [List.not_mem_nil, or_false]
  exact mem_ends
theorem cutsL_rise (X : List Kn) (F T : Int) : (cutsL X F T).Pairwise (· < ·) := sorted_foldU _ _ List.Pairwise.nil
/-- The days at which stretches begin. -/
def starts (s : SS) : List Int := s.2.2.map (·.1) ++ [s.1]
theorem starts_more {X : List Kn} {d : Int} : ∀ (C : List Int) (s : SS), d ∈ starts s → d ∈ starts (C.foldl (strS X) s)
  | [], _, h => h
  | c :: C, s, h => by
    rw [List.foldl_cons]
    refine starts_more C _ ?_
    unfold strS
    split
    · exact h
    · unfold starts at h ⊢
      simp at h ⊢
      rcases h with h | h
      · exact .inl h
      · exact .inr (.inl h)
theorem str_at (X : List Kn) : ∀ (C : List Int) (s : SS), (C.foldl (strS X) s).2.1 = match C.getLast? with
    | some c => plc X c X.length
    | none => s.2.1
  | [], _ => rfl
  | c :: C, s => by
    rw [List.foldl_cons, str_at X C]
    have h1 : (strS X s c).2.1 = plc X c X.length := by
      unfold strS
      split
      · rename_i h; exact h.symm
      · rfl
    rw [List.getLast?_cons]
    cases C.getLast? with
    | none => exact h1
    | some x => rfl
theorem changes_step {X : List Kn} {F T d : Int} (h1 : F < d) (h2 : d < T) (h3 : plc X (d - 1) X.length ≠ plc X d X.length) : d ∈ changesX X F T := by
  have hm : d ∈ cutsL X F T := by
    rw [mem_cutsL]
    refine ⟨⟨h1, h2⟩, Classical.byContradiction fun hn => h3 (plc_const (by omega) (fun c h4 h5 x hx => ?_) _)⟩
    have : c = d := by omega
    subst this
    exact ⟨fun h6 => hn ⟨x, hx, .inl h6.symm⟩, fun h6 => hn ⟨x, hx, .inr h6.symm⟩⟩
  have hs := cutsL_rise X F T
  have hmem := fun c => mem_cutsL (X := X) (F := F) (T := T) (d := c)
  obtain ⟨C1, C2, hC⟩ := List.append_of_mem hm
  rw [hC] at hs hmem
  rw [List.pairwise_append] at hs
  obtain ⟨hs1, hs2, hs3⟩ := hs
  have hat : (strK X F C1).2.1 = plc X (d - 1) X.length := by
    unfold strK
    rw [str_at]
    cases hl : C1.getLast? with
    | none =>
      have hn : C1 = [] := List.getLast?_eq_none_iff.1 hl
      subst hn
      refine plc_const (by omega) (fun c h4 h5 x hx => ?_) _
      have h6 : ¬ c ∈ ([] ++ d :: C2 : List Int) := fun h6 => by
        simp only [List.nil_append, List.mem_cons] at h6
        rcases h6 with h6 | h6
        · omega
        · have := (List.pairwise_cons.1 hs2).1 c h6; omega
      rw [hmem] at h6
      exact ⟨fun h7 => h6 ⟨⟨h4, by omega⟩, x, hx, .inl h7.symm⟩, fun h7 => h6 ⟨⟨h4, by omega⟩, x, hx, .inr h7.symm⟩⟩
    | some m =>
      have hm1 : m ∈ C1 := List.mem_of_getLast? hl
      have hmF : F < m ∧ m < d := ⟨((hmem m).1 (List.mem_append_left _ hm1)).1.1, hs3 m hm1 d (List.mem_cons_self ..)⟩
      refine plc_const (by omega) (fun c h4 h5 x hx => ?_) _
      have h6 : ¬ c ∈ (C1 ++ d :: C2 : List Int) := fun h6 => by
        rw [List.mem_append] at h6
        rcases h6 with h6 | h6
        · obtain ⟨D, hD⟩ := List.getLast?_eq_some_iff.1 hl
          rw [hD] at h6 hs1
          rw [List.mem_append] at h6
          rcases h6 with h6 | h6
          · have := (List.pairwise_append.1 hs1).2.2 c h6 m (List.mem_cons_self ..)
            omega
          · simp at h6; omega
        · rw [List.mem_cons] at h6
          rcases h6 with h6 | h6
          · omega
          · have := (List.pairwise_cons.1 hs2).1 c h6; omega
      rw [hmem] at h6
      exact ⟨fun h7 => h6 ⟨⟨by omega, by omega⟩, x, hx, .inl h7.symm⟩, fun h7 => h6 ⟨⟨by omega, by omega⟩, x, hx, .inr h7.symm⟩⟩
  have hin : d ∈ starts (strK X F (cutsL X F T)) := by
    rw [hC]
    unfold strK at hat ⊢
    rw [List.foldl_append, List.foldl_cons]
    refine starts_more C2 _ ?_
    generalize C1.foldl (strS X) (F, plc X F X.length, []) = s at hat ⊢
    unfold strS
    rw [if_neg (by rw [hat]; exact fun h => h3 h.symm)]
    simp [starts]
  unfold changesX chgS strL
  rw [if_neg (by omega)]
  rw [List.mem_filterMap]
  unfold starts at hin
  rw [List.mem_append] at hin
  rcases hin with hin | hin
  · rw [List.mem_map] at hin
    obtain ⟨p, hp, rfl⟩ := hin
    exact ⟨p, List.mem_append_left _ hp, by simp [h1]⟩
  · simp only [List.mem_cons, List.not_mem_nil, or_false] at hin
    exact ⟨_, List.mem_append_right _ (List.mem_cons_self ..), by simp only; rw [← hin, if_pos h1]⟩
theorem changes_const {X : List Kn} {F T : Int} : ∀ (n : Nat) {a b : Int}, F ≤ a → b = a + n → b < T → (∀ c ∈ changesX X F T, ¬ (a < c ∧ c ≤ b)) → plc X a X.length = plc X b X.length
  | 0, a, b, _, hb, _, _ => by have : a = b := by omega
                               rw [this]
  | n + 1, a, b, h1, hb, h2, h3 => by
    have ih := changes_const n (a := a) (b := b - 1) h1 (by omega) (by omega) fun c hc h => h3 c hc (by omega)
    rw [ih]
    exact Classical.byContradiction fun hn => h3 b (changes_step (by omega) h2 hn) (by omega)
theorem pcs_chain {e : Int → Int → Bool} {T : Int} : ∀ (C : List Int) (F : Int), C.Pairwise (· ≤ ·) → F < T → (∀ a b, F ≤ a → a ≤ b → b < T → (∀ c ∈ C, ¬ (a < c ∧ c ≤ b)) → e a b = true) → Chain e T F (pcsS F T C)
  | [], F, _, hF, h => ⟨rfl, hF, fun d h1 h2 => h F d (Int.le_refl _) h1 h2 (by simp), rfl⟩
  | c :: C, F, hs, hF, h => by
    obtain ⟨hs1, hs2⟩ := List.pairwise_cons.1 hs
    unfold pcsS
    split
    · rename_i hc
      refine ⟨rfl, hc.1, fun d h1 h2 => h F d (Int.le_refl _) h1 (by simp only at h2; omega) fun x hx => ?_, pcs_chain C c hs2 hc.2 fun a b h1 h2 h3 h4 => h a b (by omega) h2 h3 fun x hx => ?_⟩
      · simp only at h2
        rw [List.mem_cons] at hx
        rcases hx with rfl | hx
        · omega
        · have := hs1 x hx; omega
      · rw [List.mem_cons] at hx
        rcases hx with rfl | hx
        · omega
        · exact h4 x hx
    · rename_i hc
      refine pcs_chain C F hs2 hF fun a b h1 h2 h3 h4 => h a b h1 h2 h3 fun x hx => ?_
      rw [List.mem_cons] at hx
      rcases hx with rfl | hx
      · omega
      · exact h4 x hx
theorem pieces_chain {e : Int → Int → Bool} {F T : Int} {C : List Int} (hF : F < T) (h : ∀ a b, F ≤ a → a ≤ b → b < T → (∀ c ∈ C, ¬ (a < c ∧ c ≤ b)) → e a b = true) : Chain e T F (piecesS F T C) := by
  unfold piecesS
  rw [if_neg (by omega)]
  refine pcs_chain _ _ ?_ hF fun a b h1 h2 h3 h4 => h a b h1 h2 h3 fun c hc => h4 c ((List.mergeSort_perm _ _).mem_iff.2 hc)
  have h5 := List.pairwise_mergeSort (le := fun x y : Int => decide (x ≤ y)) (fun a b c h k => by simp at h k ⊢; omega) (fun a b => by simp; omega) C
  simpa using h5
/-- The pieces of a span, day by day. -/
def runsOf (e : Int → Int → Bool) (F T : Int) : List (Int × Int) := (dayP F (T - F).toNat).foldl (mrgS e) []
theorem runsOf_runs {e : Int → Int → Bool} (he : Eqv e) {F T : Int} (h : F ≤ T) : Runs e T F (runsOf e F T) := by
  have h1 := Chain.runs he (dayP_chain he (T - F).toNat F)
  have e1 : F + ((T - F).toNat : Int) = T := by omega
  rw [e1] at h1
  exact h1
theorem runsOf_pieces {e : Int → Int → Bool} (he : Eqv e) {F T : Int} {C : List Int} (hF : F < T) (h : ∀ a b, F ≤ a → a ≤ b → b < T → (∀ c ∈ C, ¬ (a < c ∧ c ≤ b)) → e a b = true) : (piecesS F T C).foldl (mrgS e) [] = runsOf e F T :=
  Runs.one (Chain.runs he (pieces_chain hF h)) (runsOf_runs he (by omega))
theorem runsOf_nil {e : Int → Int → Bool} {F T : Int} (h : T ≤ F) : runsOf e F T = [] := by
  unfold runsOf
  have : (T - F).toNat = 0 := by omega
  rw [this]
  rfl

/-- The five lines. -/
structure Ls where
  a : List Kn
  b : List Kn
  c : List Kn
  d : List Kn
  e : List Kn
def q_ (X : List Kn) (d : Int) : Int := plc X d X.length
/-- The terms of a day. -/
def onX (L : Ls) (d : Int) : Td := ⟨0, 0, if 0 ≤ q_ L.a d then (valL L.a (q_ L.a d)).2.1 == 1 else false, if 0 ≤ q_ L.b d then (valL L.b (q_ L.b d)).2.1 else 0, if 0 ≤ q_ L.c d then (valL L.c (q_ L.c d)).2.1 else 1000000,
  if 0 ≤ q_ L.d d then (fun i => (weekV (ls (valL L.d (q_ L.d d)).2.2)).getD i 0) else (fun i => ([480, 480, 480, 480, 480, 0, 0] : List Int).getD i 0), if 0 ≤ q_ L.e d then (valL L.e (q_ L.e d)).2.2 else ⟨#[102, 105, 114, 109, 58, 49]⟩⟩
def keyT (x : Td) : Bool × Int × Int × List Int × ByteArray := (x.em, x.sa, x.pa, [x.h 0, x.h 1, x.h 2, x.h 3, x.h 4, x.h 5, x.h 6], x.co)
def eT (L : Ls) (a b : Int) : Bool := decide (keyT (onX L a) = keyT (onX L b))
theorem eT_eqv (L : Ls) : Eqv (eT L) := Eqv.of fun d => keyT (onX L d)
theorem onX_eq {L M : Ls} {a b : Int} (h1 : q_ L.a a = q_ M.a b) (h2 : q_ L.b a = q_ M.b b) (h3 : q_ L.c a = q_ M.c b) (h4 : q_ L.d a = q_ M.d b) (h5 : q_ L.e a = q_ M.e b) (hv : L = M) : onX L a = onX M b := by
  subst hv
  unfold onX
  rw [h1, h2, h3, h4, h5]
/-- All the lines' changes. -/
def chgA (L : Ls) (F T c : Int) : Prop := c ∈ changesX L.a F T ∨ c ∈ changesX L.b F T ∨ c ∈ changesX L.c F T ∨ c ∈ changesX L.d F T ∨ c ∈ changesX L.e F T
theorem eT_const {L : Ls} {F T : Int} {C : List Int} (hC : ∀ c, chgA L F T c → c ∈ C) {a b : Int} (h1 : F ≤ a) (h2 : a ≤ b) (h3 : b < T) (h : ∀ c ∈ C, ¬ (a < c ∧ c ≤ b)) : eT L a b = true := by
  have hb : b = a + ((b - a).toNat : Int) := by omega
  unfold eT
  rw [decide_eq_true_eq]
  congr 1
  exact onX_eq (changes_const _ h1 hb h3 fun c hc => h c (hC c (.inl hc))) (changes_const _ h1 hb h3 fun c hc => h c (hC c (.inr (.inl hc)))) (changes_const _ h1 hb h3 fun c hc => h c (hC c (.inr (.inr (.inl hc))))) (changes_const _ h1 hb h3 fun c hc => h c (hC c (.inr (.inr (.inr (.inl hc)))))) (changes_const _ h1 hb h3 fun c hc => h c (hC c (.inr (.inr (.inr (.inr hc)))))) rfl
theorem ofT_runs {L : Ls} {F T : Int} {C : List Int} (hF : F < T) (hC : ∀ c, chgA L F T c → c ∈ C) : (piecesS F T C).foldl (mrgS (eT L)) [] = runsOf (eT L) F T :=
  runsOf_pieces (eT_eqv L) hF fun _ _ h1 h2 h3 h4 => eT_const hC h1 h2 h3 h4
end Go.Proofs.YtlgoaohklggcdaaGreatDoor
