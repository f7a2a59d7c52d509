/- The statements' fixed answer: a quarter turn, told at four positions. -/
import Derived.Test.YtmndomlpdajjmacAsk
namespace Go.Proofs.Ytmndomlpdajjmac.Rt
open Go.RowKit Go.Proofs.YtmndomlpdajjmacW.PrintWords Go.Proofs.YtmndomlpdajjmacW.PrintLast Go.Proofs.YtmndomlpdajjmacW.PrintMore Go.Proofs.Ytmndomlpdajjmac.Pure
set_option linter.unusedVariables false
set_option linter.unusedSimpArgs false
/-- So far: what stood before the call stands; a table is there. -/
structure St (w W : World) (b : Nat) (l : List S54) : Prop where
  bel : Below w.heap.size w W
  tab : TabI W w.heap.size (fun _ => True) b l
section
variable {w W w1 : World} {b : Nat} {l : List S54}
theorem tabI_mono {base : Nat} {ok ok' : Nat → Prop} (h : TabI w base ok b l) (hok : ∀ k, ok k → ok' k) : TabI w base ok' b l := ⟨tab_mono h.1 hok, h.2⟩
theorem tabI_below {base : Nat} {ok : Nat → Prop} (h : TabI w base ok b l) (hB : Below w.heap.size w W) : TabI W base ok b l := ⟨tab_below h.1 hB, h.2⟩
theorem st_below (h : St w W b l) (hB : Below W.heap.size W w1) : St w w1 b l := ⟨below_step h.bel hB, tabI_below h.tab hB⟩
theorem below_of_grown (hg : W.grownBy w1 none) : Below W.heap.size W w1 := ⟨hg.os, hg.tape, hg.output, hg.size, fun k hk => hg.block k hk (by simp)⟩
theorem st_lit (h : St w W b l) (hg : W.grownBy w1 none) : St w w1 b l := st_below h (below_of_grown hg)
theorem below_ask {base : Nat} {ok : Nat → Prop} (h : Below w.heap.size w W) (ht : TabI W base ok b l) (hb : w.heap.size ≤ base) (hg : W.grownBy w1 (some b)) : Below w.heap.size w w1 :=
  h.grown hg h.size (fun k hk => by injection hk with hk; have := ht.1.1; omega)
theorem st_ask {ok : Nat → Prop} (h : St w W b l) (ht : TabI w1 w.heap.size ok b l) (hg : W.grownBy w1 (some b)) : St w w1 b l := ⟨below_ask h.bel h.tab (Nat.le_refl _) hg, tabI_mono ht (fun _ _ => trivial)⟩
theorem st_base (h : St w W b l) : w.heap.size ≤ W.heap.size := h.bel.size
theorem R_ask {α : Type} {d : Kd α} {e base base2 : Nat} {ok ok2 : Nat → Prop} {v : Value} {xs : List α} (h : d.R e W base ok v xs) (ht : TabI W base2 ok2 b l) (hg : W.grownBy w1 (some b)) (hne : ∀ q, q ∈ e :: d.E → q ≠ 96) : d.R e w1 base ok v xs := by
  obtain ⟨cs, hb⟩ := tab_blk ht.1
  exact Kd.R_mono (Kd.R_grown (Kd.R_types h hb hne) hg (fun k hk e => hk.2 (Option.some.inj e))) (fun _ hk => hk.1)
theorem R_off {α : Type} {d : Kd α} {e base base2 m : Nat} {ok ok2 : Nat → Prop} {A : Option Addr} {n c : Nat} {xs : List α} (h : d.R e W base ok (.slice A n c) xs) (ht : TabI W base2 ok2 b l) (hne : e ≠ 96) : 0 < m → ∀ ad, A = some ad → ad.block ≠ b := by
  intro _ ad e he
  subst e
  obtain ⟨cs, hb⟩ := tab_blk ht.1
  exact Kd.R_ne h hb hne (by rw [← he]; rfl)
theorem R_over_lit {α : Type} {d : Kd α} {e base : Nat} {ok : Nat → Prop} {v : Value} {xs : List α} (h : d.R e W base ok v xs) (hg : W.grownBy w1 none) : d.R e w1 base ok v xs := Kd.R_below h (below_of_grown hg)
end
theorem tab_low {w : World} {base base' b : Nat} {ok : Nat → Prop} {l : List S54} {rs : List (List S54)} (h : Tab w base ok b l rs) (hb : base' ≤ base) : Tab w base' ok b l rs := by
  obtain ⟨h0, A, c, d, s, v, hbk, hR, hv⟩ := h
  exact ⟨Nat.le_trans hb h0, A, c, d, s, v, hbk, Kd.R_lower hR hb, hv.imp id (fun h => ⟨h.1, Kd.S_lower h.2 hb⟩)⟩
theorem guard_at (b : Nat) (x : Operand) (w : World) : (eqGuard .eql 43 x (.const (.pointer none)) (.pointer (some ⟨b, 0, none⟩)) (.pointer none)).run Try.prog w = .ok () w := by kernel_rfl
theorem neI : ∀ q, q ∈ 21 :: (Kd.int .i32).E → q ≠ 96 := by decide
def quarter : List S54 := [⟨0, 65536⟩]
theorem quarter_units : Cz.Units quarter := fun t ht => by
  obtain rfl := List.mem_singleton.mp ht
  exact ⟨by decide, by decide, by decide, by decide⟩
theorem reps54 (w : World) (base : Nat) (ok : Nat → Prop) (t : S54) : Reps (k54.M w base ok) k54.sz [t] [.int .i32 t.f0, .int .i32 t.f1] :=
  ⟨rfl, fun j p h => by
    cases j with
    | zero => obtain rfl : t = p := by simpa using h
              exact k54_mkM w base ok t
    | succ j => simp at h⟩
theorem reps2 (w : World) (base : Nat) (ok : Nat → Prop) (x y : Int) : Reps ((Kd.int .i32).M w base ok) (Kd.int .i32).sz [x, y] [.int .i32 x, .int .i32 y] :=
  ⟨rfl, fun j p h => by
    cases j with
    | zero => obtain rfl : x = p := by simpa using h
              rfl
    | succ j => cases j with
      | zero => obtain rfl : y = p := by simpa using h
                rfl
      | succ j => simp at h⟩
theorem twoI : Cz.I32 [1, 2] := fun x hx => by
  rcases List.mem_cons.mp hx with rfl | hx
  · decide
  · obtain rfl := List.mem_singleton.mp hx
    decide
def Awake (w : World) (e : Ending) (w' : World) : Prop := e = .returned (.bool true) ∧ Below w.heap.size w w'
set_option maxRecDepth 100000 in
set_option maxHeartbeats 8000000 in
theorem awake_calls (w : World) : Calls Try.prog 30 #[] w (Awake w) := by
  have hu54 := Try.underlying54
  have h62 := fun A c w1 => new_yes 1001 A c quarter (Cz.rowsI quarter 1024) w1
  generalize hQ : Awake w = Q
  have HQ := Aside0.mk hQ
  have H62 := Aside0.mk h62
  clear hQ h62
  have HB := Aside0.mk (Below.refl w.heap.size w)
  go_enter Try.func30, Try.ntmps30
  go_wp2_with ((with_reducible refine gate_dst (N := 15) rfl ?_); refine Kd.R_lit k54 _ 54 ?hg (N := 15) ?hd (xs := quarter) (inner := [.int .i32 0, .int .i32 65536]) (ok := fun _ => True) (okp := fun _ => True) ?hr ?hp (fun _ hk => hk) trivial (Below.refl _ _) (Nat.le_refl _) (by decide) ?_; (case hd => rfl); (case hg => rfl); (case hr => first | (go_simp; done) | (go_simp; rfl)); (case hp => exact reps54 _ _ _ ⟨0, 65536⟩); intro v1 w1 ho hb hg hnew; obtain ⟨Av1, cv1, ev⟩ := Kd.R_slice ho; subst ev; have HOv1 := Aside0.mk ho; have HGv1 := Aside0.mk hg; clear hg hnew ho hb)
  refine (H62.out _ _ _ (Kd.R_reads' HOv1.out).2.2 (Kd.R_reads' HOv1.out).2.1 (by decide) (by rw [Cz.all_eq quarter (by decide) 1001 (by decide), (Cz.all_units quarter).mpr quarter_units])).mono ?_
  rintro e w2 ⟨b, rfl, hT, hB⟩
  have HS := Aside0.mk (show St w w2 b quarter from ⟨below_step (below_of_grown HGv1.out) hB, ⟨tab_low hT (below_of_grown HGv1.out).size, by decide, quarter_units⟩⟩)
  clear hT hB
  go_wp2_with ((with_reducible refine gate_dst (N := 21) rfl ?_); refine Kd.R_lit k54 _ 54 ?hg (N := 21) ?hd (xs := ([⟨65537, 0⟩] : List S54)) (inner := [.int .i32 65537, .int .i32 0]) (ok := fun _ => True) (okp := fun _ => True) ?hr ?hp (fun _ hk => hk) trivial (Below.refl _ _) (Nat.le_refl _) (by decide) ?_; (case hd => rfl); (case hg => rfl); (case hr => first | (go_simp; done) | (go_simp; rfl)); (case hp => exact reps54 _ _ _ ⟨65537, 0⟩); intro v3 w3 ho hb hg hnew; obtain ⟨Av3, cv3, ev⟩ := Kd.R_slice ho; subst ev; have HOv3 := Aside0.mk ho; have HGv3 := Aside0.mk hg; clear hg hnew ho hb)
  refine (new_no 1001 _ _ _ _ (Kd.R_reads' HOv3.out).2.2 (Kd.R_reads' HOv3.out).2.1 (by decide) (by rw [Cz.all_eq _ (by decide) 1001 (by decide)]; rfl)).mono ?_
  rintro e w4 ⟨rfl, hB⟩
  have HS4 := Aside0.mk (st_below (st_lit HS.out HGv3.out) hB)
  clear hB HS
  have hp1 := fun w => ptr_some b w
  have hp2 := fun w => guard_at b (.tmp 28) w
  go_wp2_with ((with_reducible refine gate_dst (N := 37) rfl ?_); refine Kd.R_lit (Kd.int .i32) _ 21 ?hg (N := 37) ?hd (xs := ([1, 2] : List Int)) (inner := [.int .i32 1, .int .i32 2]) (ok := fun _ => True) (okp := fun _ => True) ?hr ?hp (fun _ hk => hk) trivial (Below.refl _ _) (Nat.le_refl _) (by decide) ?_; (case hd => rfl); (case hg => rfl); (case hr => first | (go_simp; done) | (go_simp; rfl)); (case hp => exact reps2 _ _ _ _ _); intro v5 w5 ho hb hg hnew; obtain ⟨Av5, cv5, ev⟩ := Kd.R_slice ho; subst ev; have HOv5 := Aside0.mk ho; have HGv5 := Aside0.mk hg; clear hg hnew ho hb)
  refine (rotate_yes w.heap.size b (fun _ => True) quarter [1, 2] _ _ 1 _ (st_lit HS4.out HGv5.out).tab (st_base (st_lit HS4.out HGv5.out)) (by decide) (by decide) (Kd.R_reads' HOv5.out).2.2 (Kd.R_reads' HOv5.out).2.1 (R_off HOv5.out (st_lit HS4.out HGv5.out).tab (by decide)) rfl twoI).mono ?_
  rintro e w6 ⟨v6, rfl, hR, hT, hg⟩
  rw [show Cz.rotR (atL quarter 1) [1, 2] = [-2, 1] from rfl] at hR
  obtain ⟨Av6, cv6, ev⟩ := Kd.R_slice hR
  subst ev
  have HS6 := Aside0.mk (st_ask (st_lit HS4.out HGv5.out) hT hg)
  have HO6 := Aside0.mk hR
  clear hR hT hg HS4 HOv5 HGv5
  go_wp2_with ((with_reducible refine gate_dst (N := 43) rfl ?_); refine Kd.R_lit (Kd.int .i32) _ 21 ?hg (N := 43) ?hd (xs := ([1, 2] : List Int)) (inner := [.int .i32 1, .int .i32 2]) (ok := fun _ => True) (okp := fun _ => True) ?hr ?hp (fun _ hk => hk) trivial (Below.refl _ _) (Nat.le_refl _) (by decide) ?_; (case hd => rfl); (case hg => rfl); (case hr => first | (go_simp; done) | (go_simp; rfl)); (case hp => exact reps2 _ _ _ _ _); intro v7 w7 ho hb hg hnew; obtain ⟨Av7, cv7, ev⟩ := Kd.R_slice ho; subst ev; have HOv7 := Aside0.mk ho; have HGv7 := Aside0.mk hg; clear hg hnew ho hb)
  have HO6' := Aside0.mk (R_over_lit HO6.out HGv7.out)
  refine (rotate_yes w.heap.size b (fun _ => True) quarter [1, 2] _ _ 4 _ (st_lit HS6.out HGv7.out).tab (st_base (st_lit HS6.out HGv7.out)) (by decide) (by decide) (Kd.R_reads' HOv7.out).2.2 (Kd.R_reads' HOv7.out).2.1 (R_off HOv7.out (st_lit HS6.out HGv7.out).tab (by decide)) rfl twoI).mono ?_
  rintro e w8 ⟨v8, rfl, hR, hT, hg⟩
  rw [show Cz.rotR (atL quarter 4) [1, 2] = [1, 2] from rfl] at hR
  obtain ⟨Av8, cv8, ev⟩ := Kd.R_slice hR
  subst ev
  have HP6 := Aside0.mk (R_ask HO6'.out (st_lit HS6.out HGv7.out).tab hg neI)
  have HS8 := Aside0.mk (st_ask (st_lit HS6.out HGv7.out) hT hg)
  have HO8 := Aside0.mk hR
  clear hR hT hg HS6 HOv7 HGv7 HO6 HO6'
  go_wp2_with ((with_reducible refine gate_dst (N := 49) rfl ?_); refine Kd.R_lit (Kd.int .i32) _ 21 ?hg (N := 49) ?hd (xs := ([1, 2] : List Int)) (inner := [.int .i32 1, .int .i32 2]) (ok := fun _ => True) (okp := fun _ => True) ?hr ?hp (fun _ hk => hk) trivial (Below.refl _ _) (Nat.le_refl _) (by decide) ?_; (case hd => rfl); (case hg => rfl); (case hr => first | (go_simp; done) | (go_simp; rfl)); (case hp => exact reps2 _ _ _ _ _); intro v9 w9 ho hb hg hnew; obtain ⟨Av9, cv9, ev⟩ := Kd.R_slice ho; subst ev; have HOv9 := Aside0.mk ho; have HGv9 := Aside0.mk hg; clear hg hnew ho hb)
  refine (rotate_out w.heap.size b (fun _ => True) quarter 2 _ _ (-1) _ (st_lit HS8.out HGv9.out).tab rfl (.inl (by decide))).mono ?_
  rintro e w10 ⟨rfl, rfl⟩
  have HS9 := Aside0.mk (st_lit HS8.out HGv9.out)
  have HO6 := Aside0.mk (R_over_lit HP6.out HGv9.out)
  have HO8' := Aside0.mk (R_over_lit HO8.out HGv9.out)
  clear HS8 HO8 HP6 HOv9 HGv9
  go_wp2_with fail
  refine (row_yes w.heap.size b (fun _ => True) quarter 2 _ HS9.out.tab (st_base HS9.out) (by decide) (by decide)).mono ?_
  rintro e w11 ⟨v11, rfl, hR, hT, hg⟩
  rw [show atL quarter 2 = [⟨-65536, 0⟩] from rfl] at hR
  obtain ⟨Av11, cv11, ev⟩ := Kd.R_slice hR
  subst ev
  have HP6 := Aside0.mk (R_ask HO6.out HS9.out.tab hg neI)
  have HP8 := Aside0.mk (R_ask HO8'.out HS9.out.tab hg neI)
  have HS11 := Aside0.mk (st_ask HS9.out hT hg)
  have HO11 := Aside0.mk hR
  clear hR hT hg HS9 HO6 HO8'
  go_wp2_with ((with_reducible refine gate_dst (N := 66) rfl ?_); (try (refine gate_guard (by rfl) ?_; dsimp only)); refine Kd.R_lit (Kd.int .i32) _ 21 ?hg (N := 66) ?hd (xs := ([-2, 1] : List Int)) (inner := [.int .i32 (-2), .int .i32 1]) (ok := fun _ => True) (okp := fun _ => True) ?hr ?hp (fun _ hk => hk) trivial (Below.refl _ _) (Nat.le_refl _) (by decide) ?_; (case hd => rfl); (case hg => rfl); (case hr => first | (go_simp; done) | (go_simp; rfl)); (case hp => exact reps2 _ _ _ _ _); intro v13 w13 ho hb hg hnew; obtain ⟨Av13, cv13, ev⟩ := Kd.R_slice ho; subst ev; have HOv13 := Aside0.mk ho; have HGv13 := Aside0.mk hg; clear hg hnew ho hb)
  refine (credenzaref03_Same.calls 1001 _ _ [-2, 1] _ _ [-2, 1] true _ (Kd.R_reads' (R_over_lit HP6.out HGv13.out)).2.2 (Kd.R_reads' (R_over_lit HP6.out HGv13.out)).2.1 (Kd.R_reads' HOv13.out).2.2 (Kd.R_reads' HOv13.out).2.1 (Cz.same_self _ (by decide) 1001 (by decide))).mono ?_
  rintro e w14 ⟨rfl, hB⟩
  replace hB := hB.below
  have HS14 := Aside0.mk (st_below (st_lit HS11.out HGv13.out) hB)
  have HO8 := Aside0.mk (Kd.R_below (R_over_lit HP8.out HGv13.out) hB)
  have HP11 := Aside0.mk (Kd.R_below (R_over_lit HO11.out HGv13.out) hB)
  clear hB HS11 HP8 HO11 HP6 HOv13 HGv13
  go_wp2_with ((with_reducible refine gate_dst (N := 71) rfl ?_); (try (refine gate_guard (by rfl) ?_; dsimp only)); refine Kd.R_lit (Kd.int .i32) _ 21 ?hg (N := 71) ?hd (xs := ([1, 2] : List Int)) (inner := [.int .i32 1, .int .i32 2]) (ok := fun _ => True) (okp := fun _ => True) ?hr ?hp (fun _ hk => hk) trivial (Below.refl _ _) (Nat.le_refl _) (by decide) ?_; (case hd => rfl); (case hg => rfl); (case hr => first | (go_simp; done) | (go_simp; rfl)); (case hp => exact reps2 _ _ _ _ _); intro v15 w15 ho hb hg hnew; obtain ⟨Av15, cv15, ev⟩ := Kd.R_slice ho; subst ev; have HOv15 := Aside0.mk ho; have HGv15 := Aside0.mk hg; clear hg hnew ho hb)
  refine (credenzaref03_Same.calls 1001 _ _ [1, 2] _ _ [1, 2] true _ (Kd.R_reads' (R_over_lit HO8.out HGv15.out)).2.2 (Kd.R_reads' (R_over_lit HO8.out HGv15.out)).2.1 (Kd.R_reads' HOv15.out).2.2 (Kd.R_reads' HOv15.out).2.1 (Cz.same_self _ (by decide) 1001 (by decide))).mono ?_
  rintro e w16 ⟨rfl, hB⟩
  replace hB := hB.below
  have HS16 := Aside0.mk (st_below (st_lit HS14.out HGv15.out) hB)
  have HR11 := Aside0.mk (Kd.R_reads' (Kd.R_below (R_over_lit HP11.out HGv15.out) hB)).2.2
  clear hB HS14 HP11 HO8 HOv15 HGv15
  obtain ⟨ad, ea, hx0, hx1⟩ := at_T54 HR11.out 0 (by decide) (by decide)
  rw [show rd_T54 [⟨-65536, 0⟩] 0 = ⟨-65536, 0⟩ from rfl] at hx0 hx1
  subst ea
  rw [show (0 : Int).toNat * 2 = 0 from rfl, Addr.add_zero'] at hx0
  clear hx1
  have HT := Aside0.mk (turns_calls w.heap.size b (fun _ => True) quarter (Cz.rowsI quarter 1024) w16 HS16.out.tab.1)
  go_wp2_with (go_at_call 33; refine HT.out.mono ?_; rintro e w17 ⟨rfl, rfl⟩)
  rw [← HQ.out]
  exact ⟨rfl, HS16.out.bel⟩
theorem awake_then {w W : World} (hB : Below w.heap.size w W) : Calls Try.prog 30 #[] W fun e w' => e = .returned (.bool true) ∧ Below w.heap.size w w' :=
  (awake_calls W).mono fun e w' ⟨he, h⟩ => ⟨he, below_step hB h⟩
end Go.Proofs.Ytmndomlpdajjmac.Rt
