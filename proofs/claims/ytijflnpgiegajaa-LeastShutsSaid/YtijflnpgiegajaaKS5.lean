/- Part 5 of the texts behind the statement that the last text of this claim proves. -/
import Derived.Test.YtijflnpgiegajaaKS0
import Derived.Test.YtijflnpgiegajaaKS1
import Derived.Test.YtijflnpgiegajaaKS2
import Derived.Test.YtijflnpgiegajaaKS3
import Derived.Test.YtijflnpgiegajaaKS4
section
namespace Go.Proofs.Ytijflnpgiegajaa.Q
open Go.RowKit Go.Proofs.YtijflnpgiegajaaW.PrintWords Go.Proofs.YtijflnpgiegajaaW.PrintLast Go.Proofs.YtijflnpgiegajaaW.PrintMore
attribute [local go_sem] max2_int min2_int max_two min_two
set_option linter.unusedVariables false
set_option linter.unusedSimpArgs false
mutual
def feluccalaw17_LeastShuts.j0 : Nat → List (S65) → Int → Int → Int → Int → Int → List Int → Bool → Bool → Option (Bool)
  | 0, _, _, _, _, _, _, _, _, _ => none
  | k + 1, x0, x1, x2, x3, x4, x5, x6, x15, x37 => if x37 = true then (some x15) else ((least_Route.f x0 x1 x2 x3 x4 x5 x6).bind fun bt240 => ((least_Route.f x0 x1 x2 x3 x4 x5 ([] : List Int)).bind fun bt246 => ((path_IDs.f k bt246.1 bt246.2.1).bind fun t252 => ((path_Ends.f k x0 t252 x1).bind fun bt255 => (if bt246.2.2 = true then (feluccalaw17_LeastShuts.l0 k x0 x1 x6 x15 bt240.2.2 bt255.1 bt255.2 1 bt240.1 bt240.2.1 bt246.1 bt246.2.1) else (if x15 = true then (if bt240.2.2 = true then (some false) else (some ((bt240.1.length : Int) == 0))) else (some false)))))))
def feluccalaw17_LeastShuts.l0 : Nat → List (S65) → Int → List Int → Bool → Bool → List Int → Bool → Int → List (S56) → Int → List (S56) → Int → Option (Bool)
  | 0, _, _, _, _, _, _, _, _, _, _, _, _ => none
  | k + 1, x0, x1, x6, x15, x17, x20, x22, x23, x246000, x246001, x252000, x252001 => if x23 < (x20.length : Int) then (feluccalaw17_LeastShuts.l1 k x0 x1 x6 x15 x17 x20 x22 x23 0 x246000 x246001 x252000 x252001) else ((path_IDs.f k x246000 x246001).bind fun t261 => ((path_Ends.f k x0 t261 x1).bind fun bt264 => (feluccalaw17_LeastShuts.l2 k x6 x15 x17 x22 bt264.1 bt264.2 1 x246000 x246001 x252000 x252001)))
def feluccalaw17_LeastShuts.l1 : Nat → List (S65) → Int → List Int → Bool → Bool → List Int → Bool → Int → Int → List (S56) → Int → List (S56) → Int → Option (Bool)
  | 0, _, _, _, _, _, _, _, _, _, _, _, _, _ => none
  | k + 1, x0, x1, x6, x15, x17, x20, x22, x23, x24, x246000, x246001, x252000, x252001 => if x24 < (x6.length : Int) then (if x22 = true then (if 0 ≤ x23 then (if x23 < (x20.length : Int) then (if 0 ≤ x24 then (feluccalaw17_LeastShuts.l1 k x0 x1 x6 x15 x17 x20 ((rd x20 x23) != (rd x6 x24)) x23 (wrap64 (x24 + 1)) x246000 x246001 x252000 x252001) else (none)) else (none)) else (none)) else (feluccalaw17_LeastShuts.l1 k x0 x1 x6 x15 x17 x20 false x23 (wrap64 (x24 + 1)) x246000 x246001 x252000 x252001)) else (feluccalaw17_LeastShuts.l0 k x0 x1 x6 x15 x17 x20 x22 (wrap64 (x23 + 1)) x246000 x246001 x252000 x252001)
def feluccalaw17_LeastShuts.l2 : Nat → List Int → Bool → Bool → Bool → List Int → Bool → Int → List (S56) → Int → List (S56) → Int → Option (Bool)
  | 0, _, _, _, _, _, _, _, _, _, _, _ => none
  | k + 1, x6, x15, x17, x22, x25, x26, x27, x246000, x246001, x252000, x252001 => if x17 = true then (feluccalaw17_LeastShuts.j4 k x6 x15 x17 x22 x25 x26 x27 (decide (x27 < (x25.length : Int))) x246000 x246001 x252000 x252001) else (feluccalaw17_LeastShuts.j4 k x6 x15 x17 x22 x25 x26 x27 false x246000 x246001 x252000 x252001)
def feluccalaw17_LeastShuts.j4 : Nat → List Int → Bool → Bool → Bool → List Int → Bool → Int → Bool → List (S56) → Int → List (S56) → Int → Option (Bool)
  | 0, _, _, _, _, _, _, _, _, _, _, _, _ => none
  | k + 1, x6, x15, x17, x22, x25, x26, x27, x120, x246000, x246001, x252000, x252001 => if x120 = true then (feluccalaw17_LeastShuts.l3 k x6 x15 x17 x22 x25 x26 x27 0 x246000 x246001 x252000 x252001) else (if x15 = true then (if x22 = true then (if x17 = true then ((path_Same.f k x246000 x246001 x252000 x252001).bind fun t268 => (if t268 = true then (if x26 = true then ((order_Compare.f k x252000 x252001 x246000 x246001).bind fun t269 => (some (decide (t269 ≤ 0)))) else (some false)) else (some false))) else (some false)) else (if x17 = true then (if x26 = true then ((order_Compare.f k x252000 x252001 x246000 x246001).bind fun t270 => (some (decide (t270 ≤ 0)))) else (some false)) else (some true))) else (some false))
def feluccalaw17_LeastShuts.l3 : Nat → List Int → Bool → Bool → Bool → List Int → Bool → Int → Int → List (S56) → Int → List (S56) → Int → Option (Bool)
  | 0, _, _, _, _, _, _, _, _, _, _, _, _ => none
  | k + 1, x6, x15, x17, x22, x25, x26, x27, x28, x246000, x246001, x252000, x252001 => if x28 < (x6.length : Int) then (if 0 ≤ x27 then (if x27 < (x25.length : Int) then (if 0 ≤ x28 then (if (rd x25 x27) = (rd x6 x28) then (some false) else (feluccalaw17_LeastShuts.l3 k x6 x15 x17 x22 x25 x26 x27 (wrap64 (x28 + 1)) x246000 x246001 x252000 x252001)) else (none)) else (none)) else (none)) else (feluccalaw17_LeastShuts.l2 k x6 x15 x17 x22 x25 x26 (wrap64 (x27 + 1)) x246000 x246001 x252000 x252001)
end
def feluccalaw17_LeastShuts.f (k : Nat) (l0 : List (S65)) (a1 : Int) (a2 : Int) (a3 : Int) (a4 : Int) (a5 : Int) (l6 : List Int) : Option (Bool) := (feluccalaw17_small.f).bind fun t239 => (if (l0.length : Int) > 30 then (feluccalaw17_LeastShuts.j0 k l0 a1 a2 a3 a4 a5 l6 t239 true) else (feluccalaw17_LeastShuts.j0 k l0 a1 a2 a3 a4 a5 l6 t239 (decide ((l6.length : Int) > 20))))
set_option maxHeartbeats 8000000 in
set_option maxRecDepth 100000 in
theorem feluccalaw17_LeastShuts.calls (k : Nat) (A0 : Option Addr) (c0 : Nat) (l0 : List (S65)) (a1 : Int) (a2 : Int) (a3 : Int) (a4 : Int) (a5 : Int) (A6 : Option Addr) (c6 : Nat) (l6 : List Int) (r : Bool) (w : World) (hr0 : Kd.C k65 w A0 l0.length l0) (hc0 : l0.length ≤ c0) (hr6 : Kd.C (Kd.int .i64) w A6 l6.length l6) (hc6 : l6.length ≤ c6) (h : feluccalaw17_LeastShuts.f k l0 a1 a2 a3 a4 a5 l6 = some r) :
    Calls Try.prog 3 #[.slice A0 l0.length c0, .int .i64 a1, .int .i64 a2, .int .i64 a3, .int .i64 a4, .int .i64 a5, .slice A6 l6.length c6] w fun e w' => e = .returned (.bool r) ∧ Below w.heap.size w w' := by
  have hu27 := Try.underlying27
  have HR0 := Aside0.mk hr0
  have HC0 := Aside0.mk hc0
  clear hr0 hc0
  have HR6 := Aside0.mk hr6
  have HC6 := Aside0.mk hc6
  clear hr6 hc6
  have HB := Aside0.mk (Below.refl w.heap.size w)
  have H : ((feluccalaw17_small.f).bind fun t239 => (if (l0.length : Int) > 30 then (feluccalaw17_LeastShuts.j0 k l0 a1 a2 a3 a4 a5 l6 t239 true) else (feluccalaw17_LeastShuts.j0 k l0 a1 a2 a3 a4 a5 l6 t239 (decide ((l6.length : Int) > 20))))) = some r := h
  clear h
  replace H := Option.bind_eq_some_iff.mp H
  obtain ⟨t239, A80, H⟩ := H
  replace H : (if (l0.length : Int) > 30 then (feluccalaw17_LeastShuts.j0 k l0 a1 a2 a3 a4 a5 l6 t239 true) else (feluccalaw17_LeastShuts.j0 k l0 a1 a2 a3 a4 a5 l6 t239 (decide ((l6.length : Int) > 20)))) = some r := H
  have A8 := Aside0.mk A80
  clear A80
  have HC9 := Aside0.mk H
  clear H
  go_enter Try.func3, Try.ntmps3
  go_upto_region 2 with (first | (go_at_call 14; (with_reducible refine (feluccalaw17_small.calls  t239 _ A8.out).mono ?_); rintro e w10 ⟨rfl, hb⟩; have n0_ := Aside0.mk (below_step (by repeat (first | (with_reducible first | exact HB.out | apply below_alloc | apply pw_below_drewN | apply below_drew1) | exact HB.out)) hb); clear HB; have HB := n0_; clear n0_; (try clear hb); (try clear hb2); (try clear hk); (try clear hi)))
  (try simp only [Act.put, List.setIfInBounds_toArray, List.set_cons_zero, List.set_cons_succ])
  go_cut [37] (fun v37 wc => ∃ (kq : Nat) (x37_8 : Bool), v37 = .bool x37_8 ∧ Aside0 (feluccalaw17_LeastShuts.j0 kq l0 a1 a2 a3 a4 a5 l6 t239 x37_8 = some r) ∧ Aside0 (kq ≤ k) ∧ Aside0 (Below w.heap.size w wc))
  case first =>
    have H := HC9.out
    clear HC9
    by_cases c11 : (l0.length : Int) > 30
    · rw [if_pos c11] at H
      have c11b0 : decide (30 < (l0.length : Int)) = true := decide_eq_true c11
      have c11b1 : decide (30 < l0.length) = true := decide_eq_true (by omega)
      clear c11
      (first | rw [c11b0] | (simp only [i64_w, i32_w]; rw [c11b0]) | skip)
      have H' := Aside0.mk H
      clear H
      go_wp2
      repeat (go_quiet (fail); try go_wp2)
      go_meet
      case rel => exact ⟨_, (true), (by first | rfl | (simp; done) | (simp [*]; done)), H', ⟨by first | omega | exact Nat.le_refl _⟩, ⟨by repeat (first | (with_reducible first | exact HB.out | apply below_alloc | apply pw_below_drewN | apply below_drew1) | exact HB.out)⟩⟩
    · rw [if_neg c11] at H
      have c11b0 : decide (30 < (l0.length : Int)) = false := decide_eq_false c11
      have c11b1 : decide (30 < l0.length) = false := decide_eq_false (by omega)
      clear c11
      (first | rw [c11b0] | (simp only [i64_w, i32_w]; rw [c11b0]) | skip)
      have H' := Aside0.mk H
      clear H
      go_wp2
      repeat (go_quiet (fail); try go_wp2)
      go_meet
      case rel => exact ⟨_, (decide ((l6.length : Int) > 20)), (by first | rfl | (simp; done) | (simp [*]; done)), H', ⟨by first | omega | exact Nat.le_refl _⟩, ⟨by repeat (first | (with_reducible first | exact HB.out | apply below_alloc | apply pw_below_drewN | apply below_drew1) | exact HB.out)⟩⟩
  case rest =>
    clear HC9
    try clear c1
    try clear p2
    try clear c3
    try clear c6
    try clear c11
    try clear c11b0
    try clear c11b1
    obtain ⟨kq, x37_8, rfl, HA, HJ8, HB⟩ := hcut
    cases kq with
    | zero => exact absurd HA.out (by simp [feluccalaw17_LeastShuts.j0])
    | succ kj8 =>
      have H := HA.out
      clear HA
      simp only [feluccalaw17_LeastShuts.j0] at H
      by_cases c12 : x37_8 = true
      · subst c12
        have H1 : (some t239) = some r := by rw [if_pos rfl] at H; exact H
        clear H
        have H := H1
        clear H1
        obtain rfl := Option.some.inj H
        go_wp2
        repeat (go_quiet (fail); try go_wp2)
        go_ret
        exact ⟨by first | rfl | (simp [errW_none, errW_some] <;> rfl) | (simp [*, errW_none, errW_some] <;> rfl), by repeat (first | (with_reducible first | exact HB.out | apply below_alloc | apply pw_below_drewN | apply below_drew1) | exact HB.out)⟩
      · replace c12 := Bool.eq_false_iff.mpr c12
        subst c12
        have H1 : ((least_Route.f l0 a1 a2 a3 a4 a5 l6).bind fun bt240 => ((least_Route.f l0 a1 a2 a3 a4 a5 ([] : List Int)).bind fun bt246 => ((path_IDs.f kj8 bt246.1 bt246.2.1).bind fun t252 => ((path_Ends.f kj8 l0 t252 a1).bind fun bt255 => (if bt246.2.2 = true then (feluccalaw17_LeastShuts.l0 kj8 l0 a1 l6 t239 bt240.2.2 bt255.1 bt255.2 1 bt240.1 bt240.2.1 bt246.1 bt246.2.1) else (if t239 = true then (if bt240.2.2 = true then (some false) else (some ((bt240.1.length : Int) == 0))) else (some false))))))) = some r := by rw [if_neg (show ¬ (false = true) by decide)] at H; exact H
        clear H
        have H := H1
        clear H1
        replace H := Option.bind_eq_some_iff.mp H
        obtain ⟨⟨t240, t243, t244⟩, A130, H⟩ := H
        replace H : ((least_Route.f l0 a1 a2 a3 a4 a5 ([] : List Int)).bind fun bt246 => ((path_IDs.f kj8 bt246.1 bt246.2.1).bind fun t252 => ((path_Ends.f kj8 l0 t252 a1).bind fun bt255 => (if bt246.2.2 = true then (feluccalaw17_LeastShuts.l0 kj8 l0 a1 l6 t239 t244 bt255.1 bt255.2 1 t240 t243 bt246.1 bt246.2.1) else (if t239 = true then (if t244 = true then (some false) else (some ((t240.length : Int) == 0))) else (some false)))))) = some r := H
        have A13 := Aside0.mk A130
        clear A130
        replace H := Option.bind_eq_some_iff.mp H
        obtain ⟨⟨t246, t249, t250⟩, A140, H⟩ := H
        replace H : ((path_IDs.f kj8 t246 t249).bind fun t252 => ((path_Ends.f kj8 l0 t252 a1).bind fun bt255 => (if t250 = true then (feluccalaw17_LeastShuts.l0 kj8 l0 a1 l6 t239 t244 bt255.1 bt255.2 1 t240 t243 t246 t249) else (if t239 = true then (if t244 = true then (some false) else (some ((t240.length : Int) == 0))) else (some false))))) = some r := H
        have A14 := Aside0.mk A140
        clear A140
        replace H := Option.bind_eq_some_iff.mp H
        obtain ⟨t252, A150, H⟩ := H
        replace H : ((path_Ends.f kj8 l0 t252 a1).bind fun bt255 => (if t250 = true then (feluccalaw17_LeastShuts.l0 kj8 l0 a1 l6 t239 t244 bt255.1 bt255.2 1 t240 t243 t246 t249) else (if t239 = true then (if t244 = true then (some false) else (some ((t240.length : Int) == 0))) else (some false)))) = some r := H
        have A15 := Aside0.mk A150
        clear A150
        replace H := Option.bind_eq_some_iff.mp H
        obtain ⟨⟨t255, t256⟩, A160, H⟩ := H
        replace H : (if t250 = true then (feluccalaw17_LeastShuts.l0 kj8 l0 a1 l6 t239 t244 t255 t256 1 t240 t243 t246 t249) else (if t239 = true then (if t244 = true then (some false) else (some ((t240.length : Int) == 0))) else (some false))) = some r := H
        have A16 := Aside0.mk A160
        clear A160
        by_cases c17 : t250 = true
        · subst c17
          have H1 : (feluccalaw17_LeastShuts.l0 kj8 l0 a1 l6 t239 t244 t255 t256 1 t240 t243 t246 t249) = some r := by rw [if_pos rfl] at H; exact H
          clear H
          have H := H1
          clear H1
          have H' := Aside0.mk H
          clear H
          go_wp2_with (first | (go_at_call 15; (with_reducible refine (least_Route.calls _ _ l0 a1 a2 a3 a4 a5 _ _ l6 t240 t243 t244 _ ?side1 ?side2 ?side3 ?side4 A13.out).mono ?_); (case side1 => repeat (first | exact (Kd.C_below HR0.out HB.out) | (with_reducible refine Kd.C_alloc ?_ _) | (with_reducible refine Kd.C_drewN ?_ _) | (with_reducible refine Kd.C_drew ?_))); (case side2 => exact HC0.out); (case side3 => repeat (first | exact (Kd.C_below HR6.out HB.out) | (with_reducible refine Kd.C_alloc ?_ _) | (with_reducible refine Kd.C_drewN ?_ _) | (with_reducible refine Kd.C_drew ?_))); (case side4 => exact HC6.out); rintro e w18 ⟨v241, rfl, ho0, hb⟩; have n0_ := Aside0.mk (Kd.R_lower ho0 (below_size (by repeat (first | (with_reducible first | exact HB.out | apply below_alloc | apply pw_below_drewN | apply below_drew1) | exact HB.out)))); have n1_ := Aside0.mk (below_step (by repeat (first | (with_reducible first | exact HB.out | apply below_alloc | apply pw_below_drewN | apply below_drew1) | exact HB.out)) hb); clear HB; have HO242 := n0_; have HB := n1_; clear n0_ n1_; (try clear hb); (try clear hb2); (try clear hk); (try clear hi); (try clear ho0)) | ((with_reducible refine gate_dst (N := 16) rfl ?_); (try (refine gate_guard (by rfl) ?_; dsimp only)); refine box_event ?hg (N := 16) ?hd (cs := #[.slice none 0 0, .int .i64 0]) (t := 27) ?hr ?_; (case hd => rfl); (case hg => rfl); (case hr => first | (go_simp; done) | (go_simp; rfl)); intro gb245 hg w19 hbox hb; have n0_ := Aside0.mk (Kd.R_below (by (with_reducible repeat (first | apply Kd.R_alloc | apply Kd.R_drewN | apply Kd.R_drew)); exact HO242.out) hb); have n1_ := Aside0.mk (below_step (by repeat (first | (with_reducible first | exact HB.out | apply below_alloc | apply pw_below_drewN | apply below_drew1) | exact HB.out)) hb); have n2_ := Aside0.mk (hbox); have n3_ := Aside0.mk ((by rw [hg]; exact (below_size (by repeat (first | (with_reducible first | exact HB.out | apply below_alloc | apply pw_below_drewN | apply below_drew1) | exact HB.out))) : w.heap.size ≤ gb245)); have n4_ := Aside0.mk ((by rw [hg]; exact (below_size (by repeat (first | (with_reducible first | exact HB.out | apply below_alloc | apply pw_below_drewN | apply below_drew1) | exact HB.out))) : w.heap.size ≤ gb245)); clear HO242; clear HB; have HO242 := n0_; have HB := n1_; have BK245 := n2_; have GW245 := n3_; have GE245 := n4_; clear n0_ n1_ n2_ n3_ n4_; clear hb hbox hg; obtain ⟨Ao20, co20, eo20⟩ := Kd.R_slice HO242.out; subst eo20; have hcz21_0 : w19.cell? ⟨gb245, 0, none⟩ = some (.slice none 0 0) := (blk_cell BK245.out 0).trans rfl; have hcz21_1 : w19.cell? ⟨gb245, 1, none⟩ = some (.int .i64 0) := (blk_cell BK245.out 1).trans rfl; have hfz21_0 := blk_frozen BK245.out 0; have hfz21_1 := blk_frozen BK245.out 1) | (go_at_call 15; (refine (least_Route.calls _ _ l0 a1 a2 a3 a4 a5 _ _ ([] : List Int) t246 t249 true _ ?side1 ?side2 ?side3 ?side4 A14.out).mono ?_); (case side1 => exact Kd.C_below HR0.out (by repeat (first | (with_reducible first | exact HB.out | apply below_alloc | apply pw_below_drewN | apply below_drew1 | refine below_set ?_ GE245.out) | exact HB.out))); (case side2 => exact HC0.out); (case side3 => exact Kd.C_nil _ _); (case side4 => exact Nat.le_refl _); rintro e w22 ⟨v247, rfl, ho0, hb⟩; have n0_ := Aside0.mk (Kd.R_elder' (by (with_reducible repeat (first | apply Kd.R_alloc | apply Kd.R_drewN | apply Kd.R_drew)); exact (Kd.R_mono (Kd.R_far (p := ⟨gb245, 1, none⟩) (Kd.R_far (p := ⟨gb245, 0, none⟩) (Kd.R_types HO242.out BK245.out (by decide)) (fun _ hk => hk.2) (.slice Ao20 t240.length co20)) (fun _ hk => hk.2) (.int .i64 t243)) (fun _ h_ => h_.1))) (Kd.R_base ho0) hb); have n1_ := Aside0.mk (Kd.R_lower (Kd.R_new' ho0 (Kd.R_lt (by (with_reducible repeat (first | apply Kd.R_alloc | apply Kd.R_drewN | apply Kd.R_drew)); exact (Kd.R_mono (Kd.R_far (p := ⟨gb245, 1, none⟩) (Kd.R_far (p := ⟨gb245, 0, none⟩) (Kd.R_types HO242.out BK245.out (by decide)) (fun _ hk => hk.2) (.slice Ao20 t240.length co20)) (fun _ hk => hk.2) (.int .i64 t243)) (fun _ h_ => h_.1))))) (below_size (by repeat (first | (with_reducible first | exact HB.out | apply below_alloc | apply pw_below_drewN | apply below_drew1 | refine below_set ?_ GE245.out) | exact HB.out)))); have n2_ := Aside0.mk (blk_below (g := gb245) (o := .cells #[.slice Ao20 t240.length co20, .int .i64 t243] 27 (0, 0)) (by (with_reducible repeat (first | refine blk_drewN ?_ _ | refine blk_drew ?_ | refine blk_alloc ?_ _)); refine blk_put (cs := #[.slice Ao20 t240.length co20, .int .i64 0]) ?_ 1 _ rfl; (with_reducible repeat (first | refine blk_drewN ?_ _ | refine blk_drew ?_ | refine blk_alloc ?_ _)); refine blk_put (cs := #[.slice none 0 0, .int .i64 0]) ?_ 0 _ rfl; (with_reducible repeat (first | refine blk_drewN ?_ _ | refine blk_drew ?_ | refine blk_alloc ?_ _)); exact BK245.out) hb); have n3_ := Aside0.mk (below_step (by repeat (first | (with_reducible first | exact HB.out | apply below_alloc | apply pw_below_drewN | apply below_drew1 | refine below_set ?_ GE245.out) | exact HB.out)) hb); clear HO242; clear BK245; clear HB; have HO242 := n0_; have HO248 := n1_; have BK245 := n2_; have HB := n3_; clear n0_ n1_ n2_ n3_; (try clear hb); (try clear hb2); (try clear hk); (try clear hi); (try clear ho0)) | ((with_reducible refine gate_dst (N := 18) rfl ?_); (try (refine gate_guard (by rfl) ?_; dsimp only)); refine box_event ?hg (N := 18) ?hd (cs := #[.slice none 0 0, .int .i64 0]) (t := 27) ?hr ?_; (case hd => rfl); (case hg => rfl); (case hr => first | (go_simp; done) | (go_simp; rfl)); intro gb251 hg w23 hbox hb; have n0_ := Aside0.mk (Kd.R_below (by (with_reducible repeat (first | apply Kd.R_alloc | apply Kd.R_drewN | apply Kd.R_drew)); exact HO242.out) hb); have n1_ := Aside0.mk (Kd.R_below (by (with_reducible repeat (first | apply Kd.R_alloc | apply Kd.R_drewN | apply Kd.R_drew)); exact HO248.out) hb); have n2_ := Aside0.mk (blk_below (g := gb245) (o := .cells #[.slice Ao20 t240.length co20, .int .i64 t243] 27 (0, 0)) (by (with_reducible repeat (first | refine blk_drewN ?_ _ | refine blk_drew ?_ | refine blk_alloc ?_ _)); exact BK245.out) hb); have n3_ := Aside0.mk (below_step (by repeat (first | (with_reducible first | exact HB.out | apply below_alloc | apply pw_below_drewN | apply below_drew1 | refine below_set ?_ GE245.out) | exact HB.out)) hb); have n4_ := Aside0.mk (hbox); have n5_ := Aside0.mk ((by rw [hg]; exact (below_size (by repeat (first | (with_reducible first | exact HB.out | apply below_alloc | apply pw_below_drewN | apply below_drew1 | refine below_set ?_ GE245.out) | exact HB.out))) : w.heap.size ≤ gb251)); have n6_ := Aside0.mk ((by rw [hg]; exact (below_size (by repeat (first | (with_reducible first | exact HB.out | apply below_alloc | apply pw_below_drewN | apply below_drew1 | refine below_set ?_ GE245.out) | exact HB.out))) : w.heap.size ≤ gb251)); have n7_ := Aside0.mk ((by rw [hg]; exact Nat.ne_of_lt (blk_lt (g := gb245) (o := .cells #[.slice Ao20 t240.length co20, .int .i64 t243] 27 (0, 0)) (by (with_reducible repeat (first | refine blk_drewN ?_ _ | refine blk_drew ?_ | refine blk_alloc ?_ _)); exact BK245.out)) : gb245 ≠ gb251)); have n8_ := Aside0.mk ((by rw [hg]; exact Nat.ne_of_gt (blk_lt (g := gb245) (o := .cells #[.slice Ao20 t240.length co20, .int .i64 t243] 27 (0, 0)) (by (with_reducible repeat (first | refine blk_drewN ?_ _ | refine blk_drew ?_ | refine blk_alloc ?_ _)); exact BK245.out)) : gb251 ≠ gb245)); clear HO242; clear HO248; clear BK245; clear HB; have HO242 := n0_; have HO248 := n1_; have BK245 := n2_; have HB := n3_; have BK251 := n4_; have GW251 := n5_; have GE251 := n6_; have NB245_251 := n7_; have NB251_245 := n8_; clear n0_ n1_ n2_ n3_ n4_ n5_ n6_ n7_ n8_; clear hb hbox hg; obtain ⟨Ao24, co24, eo24⟩ := Kd.R_slice HO248.out; subst eo24; have hnb25 := NB251_245.out; have hnc25 := NB245_251.out; have hcz26_0 : w23.cell? ⟨gb251, 0, none⟩ = some (.slice none 0 0) := (blk_cell BK251.out 0).trans rfl; have hcz26_1 : w23.cell? ⟨gb251, 1, none⟩ = some (.int .i64 0) := (blk_cell BK251.out 1).trans rfl; have hfz26_0 := blk_frozen BK251.out 0; have hfz26_1 := blk_frozen BK251.out 1) | (go_at_call 17; (with_reducible refine (path_IDs.calls kj8 _ _ t246 t249 t252 _ ?side1 ?side2 A15.out).mono ?_); (case side1 => refine (Kd.R_reads' (e := 56) (base := w.heap.size) (ok := fun k_ => (True ∧ some k_ ≠ (.slice Ao20 t240.length co20 : Value).ownBlock)) (n := t246.length) (c := co24) ?_).2.2; exact (by (with_reducible repeat (first | apply Kd.R_alloc | apply Kd.R_drewN | apply Kd.R_drew)); exact (Kd.R_mono (Kd.R_far (p := ⟨gb251, 1, none⟩) (Kd.R_far (p := ⟨gb251, 0, none⟩) (Kd.R_types HO248.out BK251.out (by decide)) (fun _ hk => hk.2) (.slice Ao24 t246.length co24)) (fun _ hk => hk.2) (.int .i64 t249)) (fun _ h_ => h_.1)))); (case side2 => exact (Kd.R_reads' HO248.out).2.1); rintro e w27 ⟨v253, rfl, ho0, hb⟩; have n0_ := Aside0.mk (Kd.R_below (by (with_reducible repeat (first | apply Kd.R_alloc | apply Kd.R_drewN | apply Kd.R_drew)); exact (Kd.R_mono (Kd.R_far (p := ⟨gb251, 1, none⟩) (Kd.R_far (p := ⟨gb251, 0, none⟩) (Kd.R_types HO242.out BK251.out (by decide)) (fun _ hk => hk.2) (.slice Ao24 t246.length co24)) (fun _ hk => hk.2) (.int .i64 t249)) (fun _ h_ => h_.1))) hb); have n1_ := Aside0.mk (Kd.R_below (by (with_reducible repeat (first | apply Kd.R_alloc | apply Kd.R_drewN | apply Kd.R_drew)); exact (Kd.R_mono (Kd.R_far (p := ⟨gb251, 1, none⟩) (Kd.R_far (p := ⟨gb251, 0, none⟩) (Kd.R_types HO248.out BK251.out (by decide)) (fun _ hk => hk.2) (.slice Ao24 t246.length co24)) (fun _ hk => hk.2) (.int .i64 t249)) (fun _ h_ => h_.1))) hb); have n2_ := Aside0.mk (Kd.R_lower ho0 (below_size (by repeat (first | (with_reducible first | exact HB.out | apply below_alloc | apply pw_below_drewN | apply below_drew1 | refine below_set ?_ GE245.out | refine below_set ?_ GE251.out) | exact HB.out)))); have n3_ := Aside0.mk (blk_below (g := gb245) (o := .cells #[.slice Ao20 t240.length co20, .int .i64 t243] 27 (0, 0)) (by (with_reducible repeat (first | refine blk_drewN ?_ _ | refine blk_drew ?_ | refine blk_alloc ?_ _)); refine blk_far ?_ NB245_251.out _; (with_reducible repeat (first | refine blk_drewN ?_ _ | refine blk_drew ?_ | refine blk_alloc ?_ _)); refine blk_far ?_ NB245_251.out _; (with_reducible repeat (first | refine blk_drewN ?_ _ | refine blk_drew ?_ | refine blk_alloc ?_ _)); exact BK245.out) hb); have n4_ := Aside0.mk (blk_below (g := gb251) (o := .cells #[.slice Ao24 t246.length co24, .int .i64 t249] 27 (0, 0)) (by (with_reducible repeat (first | refine blk_drewN ?_ _ | refine blk_drew ?_ | refine blk_alloc ?_ _)); refine blk_put (cs := #[.slice Ao24 t246.length co24, .int .i64 0]) ?_ 1 _ rfl; (with_reducible repeat (first | refine blk_drewN ?_ _ | refine blk_drew ?_ | refine blk_alloc ?_ _)); refine blk_put (cs := #[.slice none 0 0, .int .i64 0]) ?_ 0 _ rfl; (with_reducible repeat (first | refine blk_drewN ?_ _ | refine blk_drew ?_ | refine blk_alloc ?_ _)); exact BK251.out) hb); have n5_ := Aside0.mk (below_step (by repeat (first | (with_reducible first | exact HB.out | apply below_alloc | apply pw_below_drewN | apply below_drew1 | refine below_set ?_ GE245.out | refine below_set ?_ GE251.out) | exact HB.out)) hb); clear HO242; clear HO248; clear BK245; clear BK251; clear HB; have HO242 := n0_; have HO248 := n1_; have HO254 := n2_; have BK245 := n3_; have BK251 := n4_; have HB := n5_; clear n0_ n1_ n2_ n3_ n4_ n5_; (try clear hb); (try clear hb2); (try clear hk); (try clear hi); (try clear ho0); obtain ⟨Ao28, co28, eo28⟩ := Kd.R_slice HO254.out; subst eo28) | (go_at_call 16; (with_reducible refine (path_Ends.calls kj8 _ _ l0 _ _ t252 a1 t255 t256 _ ?side1 ?side2 ?side3 ?side4 A16.out).mono ?_); (case side1 => repeat (first | exact (Kd.C_below HR0.out HB.out) | (with_reducible refine Kd.C_alloc ?_ _) | (with_reducible refine Kd.C_drewN ?_ _) | (with_reducible refine Kd.C_drew ?_))); (case side2 => exact HC0.out); (case side3 => repeat (first | exact (Kd.R_reads' HO254.out).2.2 | (with_reducible refine Kd.C_alloc ?_ _) | (with_reducible refine Kd.C_drewN ?_ _) | (with_reducible refine Kd.C_drew ?_))); (case side4 => exact (Kd.R_reads' HO254.out).2.1); rintro e w29 ⟨v257, rfl, ho0, hb⟩; have n0_ := Aside0.mk (Kd.R_below (by (with_reducible repeat (first | apply Kd.R_alloc | apply Kd.R_drewN | apply Kd.R_drew)); exact HO242.out) hb); have n1_ := Aside0.mk (Kd.R_below (by (with_reducible repeat (first | apply Kd.R_alloc | apply Kd.R_drewN | apply Kd.R_drew)); exact HO248.out) hb); have n2_ := Aside0.mk (Kd.R_elder' (by (with_reducible repeat (first | apply Kd.R_alloc | apply Kd.R_drewN | apply Kd.R_drew)); exact HO254.out) (Kd.R_base ho0) hb); have n3_ := Aside0.mk (Kd.R_lower (Kd.R_new' ho0 (Kd.R_lt (by (with_reducible repeat (first | apply Kd.R_alloc | apply Kd.R_drewN | apply Kd.R_drew)); exact HO254.out))) (below_size (by repeat (first | (with_reducible first | exact HB.out | apply below_alloc | apply pw_below_drewN | apply below_drew1 | refine below_set ?_ GE245.out | refine below_set ?_ GE251.out) | exact HB.out)))); have n4_ := Aside0.mk (blk_below (g := gb245) (o := .cells #[.slice Ao20 t240.length co20, .int .i64 t243] 27 (0, 0)) (by (with_reducible repeat (first | refine blk_drewN ?_ _ | refine blk_drew ?_ | refine blk_alloc ?_ _)); exact BK245.out) hb); have n5_ := Aside0.mk (blk_below (g := gb251) (o := .cells #[.slice Ao24 t246.length co24, .int .i64 t249] 27 (0, 0)) (by (with_reducible repeat (first | refine blk_drewN ?_ _ | refine blk_drew ?_ | refine blk_alloc ?_ _)); exact BK251.out) hb); have n6_ := Aside0.mk (below_step (by repeat (first | (with_reducible first | exact HB.out | apply below_alloc | apply pw_below_drewN | apply below_drew1 | refine below_set ?_ GE245.out | refine below_set ?_ GE251.out) | exact HB.out)) hb); clear HO242; clear HO248; clear HO254; clear BK245; clear BK251; clear HB; have HO242 := n0_; have HO248 := n1_; have HO254 := n2_; have HO258 := n3_; have BK245 := n4_; have BK251 := n5_; have HB := n6_; clear n0_ n1_ n2_ n3_ n4_ n5_ n6_; (try clear hb); (try clear hb2); (try clear hk); (try clear hi); (try clear ho0)))
          go_loopg [22, 23] kj8 (fun kq v22 v23 w' => ∃ (x22_2 : Bool) (x23_2 : Int), v22 = .bool x22_2 ∧ v23 = .int .i64 x23_2 ∧ Aside0 (feluccalaw17_LeastShuts.l0 kq l0 a1 l6 t239 t244 t255 x22_2 x23_2 t240 t243 t246 t249 = some r) ∧ Aside0 (kq ≤ kj8) ∧ Aside0 (Kd.R (Kd.int .i64) 3 w' w.heap.size (fun _ => True) v257 t255) ∧ Aside0 (Kd.R k56 56 w' w.heap.size (fun k_ => some k_ ≠ ((.slice Ao24 t246.length co24) : Value).ownBlock) (.slice Ao20 t240.length co20) t240) ∧ Aside0 (Kd.R k56 56 w' w.heap.size (fun k_ => some k_ ≠ ((.slice Ao20 t240.length co20) : Value).ownBlock) (.slice Ao24 t246.length co24) t246) ∧ Aside0 (w'.heap[gb245]? = some (.cells #[(.slice Ao20 t240.length co20), .int .i64 t243] 27 (0, 0))) ∧ Aside0 (w'.heap[gb251]? = some (.cells #[(.slice Ao24 t246.length co24), .int .i64 t249] 27 (0, 0))) ∧ Aside0 (Below w.heap.size w w'))
          case atStart => exact ⟨(t256), (1), (by first | rfl | (simp; done) | (simp [*]; done)), (by first | rfl | (simp; done) | (simp [*]; done)), H', ⟨Nat.le_refl _⟩, ⟨by (with_reducible repeat (first | apply Kd.R_alloc | apply Kd.R_drewN | apply Kd.R_drew)); exact Kd.R_mono HO258.out (fun _ hk => trivial)⟩, ⟨by (with_reducible repeat (first | apply Kd.R_alloc | apply Kd.R_drewN | apply Kd.R_drew)); exact Kd.R_mono HO242.out (fun _ hk => hk.2)⟩, ⟨by (with_reducible repeat (first | apply Kd.R_alloc | apply Kd.R_drewN | apply Kd.R_drew)); exact Kd.R_mono HO248.out (fun _ hk => hk.2)⟩, ⟨by (with_reducible repeat (first | refine blk_drewN ?_ _ | refine blk_drew ?_ | refine blk_alloc ?_ _)); exact BK245.out⟩, ⟨by (with_reducible repeat (first | refine blk_drewN ?_ _ | refine blk_drew ?_ | refine blk_alloc ?_ _)); exact BK251.out⟩, ⟨by repeat (first | (with_reducible first | exact HB.out | apply below_alloc | apply pw_below_drewN | apply below_drew1 | refine below_set ?_ GE245.out | refine below_set ?_ GE251.out) | exact HB.out)⟩⟩
          case round =>
            clear H'
            try clear c1
            try clear c2
            try clear p2
            try clear c3
            try clear c6
            try clear c11
            try clear c11b0
            try clear c11b1
            try clear c12
            try clear c17
            try clear c25
            try clear hcz21_0
            try clear hcz21_1
            try clear hcz26_0
            try clear hcz26_1
            try clear hfz21_0
            try clear hfz21_1
            try clear hfz26_0
            try clear hfz26_1
            try clear p2
            obtain ⟨x22_2, x23_2, rfl, rfl, HA, HK2, HO_20, HO_246000, HO_252000, BK245, BK251, HB⟩ := hrel
            cases gk with
            | zero => exact absurd HA.out (by simp [feluccalaw17_LeastShuts.l0])
            | succ k2 =>
              have H := HA.out
              clear HA
              simp only [feluccalaw17_LeastShuts.l0] at H
              by_cases c30 : x23_2 < (t255.length : Int)
              · rw [if_pos c30] at H
                have c30b0 : decide (x23_2 < (t255.length : Int)) = true := decide_eq_true c30
                clear c30
                have H' := Aside0.mk H
                clear H
                obtain ⟨Ao31, co31, eo31⟩ := Kd.R_slice HO_20.out
                subst eo31
                go_wp2
                repeat (go_quiet (fail); try go_wp2)
                go_loopg [22, 24] k2 (fun kq v22 v24 w' => ∃ (x22_3 : Bool) (x24_3 : Int), v22 = .bool x22_3 ∧ v24 = .int .i64 x24_3 ∧ Aside0 (feluccalaw17_LeastShuts.l1 kq l0 a1 l6 t239 t244 t255 x22_3 x23_2 x24_3 t240 t243 t246 t249 = some r) ∧ Aside0 (kq ≤ k2) ∧ Aside0 (Kd.R (Kd.int .i64) 3 w' w.heap.size (fun _ => True) (.slice Ao31 t255.length co31) t255) ∧ Aside0 (Kd.R k56 56 w' w.heap.size (fun k_ => some k_ ≠ ((.slice Ao24 t246.length co24) : Value).ownBlock) (.slice Ao20 t240.length co20) t240) ∧ Aside0 (Kd.R k56 56 w' w.heap.size (fun k_ => some k_ ≠ ((.slice Ao20 t240.length co20) : Value).ownBlock) (.slice Ao24 t246.length co24) t246) ∧ Aside0 (w'.heap[gb245]? = some (.cells #[(.slice Ao20 t240.length co20), .int .i64 t243] 27 (0, 0))) ∧ Aside0 (w'.heap[gb251]? = some (.cells #[(.slice Ao24 t246.length co24), .int .i64 t249] 27 (0, 0))) ∧ Aside0 (Below w.heap.size w w'))
                case atStart => exact ⟨(x22_2), (0), (by first | rfl | (simp; done) | (simp [*]; done)), (by first | rfl | (simp; done) | (simp [*]; done)), H', ⟨Nat.le_refl _⟩, ⟨by (with_reducible repeat (first | apply Kd.R_alloc | apply Kd.R_drewN | apply Kd.R_drew)); exact HO_20.out⟩, ⟨by (with_reducible repeat (first | apply Kd.R_alloc | apply Kd.R_drewN | apply Kd.R_drew)); exact HO_246000.out⟩, ⟨by (with_reducible repeat (first | apply Kd.R_alloc | apply Kd.R_drewN | apply Kd.R_drew)); exact HO_252000.out⟩, ⟨by (with_reducible repeat (first | refine blk_drewN ?_ _ | refine blk_drew ?_ | refine blk_alloc ?_ _)); exact BK245.out⟩, ⟨by (with_reducible repeat (first | refine blk_drewN ?_ _ | refine blk_drew ?_ | refine blk_alloc ?_ _)); exact BK251.out⟩, ⟨by repeat (first | (with_reducible first | exact HB.out | apply below_alloc | apply pw_below_drewN | apply below_drew1 | refine below_set ?_ GE245.out | refine below_set ?_ GE251.out) | exact HB.out)⟩⟩
                case round =>
                  clear H'
                  try clear c1
                  try clear c2
                  try clear p2
                  try clear c3
                  try clear c6
                  try clear c11
                  try clear c11b0
                  try clear c11b1
                  try clear c12
                  try clear c17
                  try clear c25
                  try clear c30
                  try clear c30b0
                  try clear hcz21_0
                  try clear hcz21_1
                  try clear hcz26_0
                  try clear hcz26_1
                  try clear hfz21_0
                  try clear hfz21_1
                  try clear hfz26_0
                  try clear hfz26_1
                  try clear p2
                  obtain ⟨x22_3, x24_3, rfl, rfl, HA, HK3, HO_20, HO_246000, HO_252000, BK245, BK251, HB⟩ := hrel
                  cases gk with
                  | zero => exact absurd HA.out (by simp [feluccalaw17_LeastShuts.l1])
                  | succ k3 =>
                    have H := HA.out
                    clear HA
                    simp only [feluccalaw17_LeastShuts.l1] at H
                    by_cases c32 : x24_3 < (l6.length : Int)
                    · rw [if_pos c32] at H
                      have c32b0 : decide (x24_3 < (l6.length : Int)) = true := decide_eq_true c32
                      clear c32
                      by_cases c33 : x22_3 = true
                      · subst c33
                        have H1 : (if 0 ≤ x23_2 then (if x23_2 < (t255.length : Int) then (if 0 ≤ x24_3 then (feluccalaw17_LeastShuts.l1 k3 l0 a1 l6 t239 t244 t255 ((rd t255 x23_2) != (rd l6 x24_3)) x23_2 (wrap64 (x24_3 + 1)) t240 t243 t246 t249) else (none)) else (none)) else (none)) = some r := by rw [if_pos rfl] at H; exact H
                        clear H
                        have H := H1
                        clear H1
                        by_cases c34 : 0 ≤ x23_2
                        · rw [if_pos c34] at H
                          have c34b0 : decide (0 ≤ x23_2) = true := decide_eq_true c34
                          clear c34
                          by_cases c35 : x23_2 < (t255.length : Int)
                          · rw [if_pos c35] at H
                            have c35b0 : decide (x23_2 < (t255.length : Int)) = true := decide_eq_true c35
                            clear c35
                            by_cases c36 : 0 ≤ x24_3
                            · rw [if_pos c36] at H
                              have c36b0 : decide (0 ≤ x24_3) = true := decide_eq_true c36
                              clear c36
                              have H' := Aside0.mk H
                              clear H
                              have p259 : 0 ≤ (x23_2 : Int) := of_decide_eq_true (by first | (with_reducible assumption) | assumption)
                              have q259 : x23_2 < (t255.length : Int) := of_decide_eq_true (by first | (with_reducible assumption) | assumption)
                              obtain ⟨ad259, e259, hx259_0⟩ := Kd.at_int (Kd.R_reads' HO_20.out).2.2 x23_2 p259 q259
                              cases e259
                              replace p259 := eq_true p259
                              replace q259 := eq_true q259
                              have p260 : 0 ≤ (x24_3 : Int) := of_decide_eq_true (by first | (with_reducible assumption) | assumption)
                              have q260 : x24_3 < (l6.length : Int) := of_decide_eq_true (by first | (with_reducible assumption) | assumption)
                              obtain ⟨ad260, e260, hx260_0⟩ := Kd.at_int HR6.out x24_3 p260 q260
                              cases e260
                              replace hx260_0 := (HB.out.cell (World.block_lt_of_cell? w _ hx260_0)).trans hx260_0
                              replace p260 := eq_true p260
                              replace q260 := eq_true q260
                              go_wp2
                              repeat (go_quiet (fail); try go_wp2)
                              go_roundg k3
                              case measure => have := HJ8.out; have := HK2.out; have := HK3.out; omega
                              case rel => exact ⟨(((rd t255 x23_2) != (rd l6 x24_3))), (wrap64 (x24_3 + 1)), (by first | rfl | (simp; done) | (simp [*]; done)), (by first | rfl | (simp; done) | (simp [*]; done)), H', ⟨by have := HJ8.out; have := HK2.out; have := HK3.out; omega⟩, ⟨by (with_reducible repeat (first | apply Kd.R_alloc | apply Kd.R_drewN | apply Kd.R_drew)); exact HO_20.out⟩, ⟨by (with_reducible repeat (first | apply Kd.R_alloc | apply Kd.R_drewN | apply Kd.R_drew)); exact HO_246000.out⟩, ⟨by (with_reducible repeat (first | apply Kd.R_alloc | apply Kd.R_drewN | apply Kd.R_drew)); exact HO_252000.out⟩, ⟨by (with_reducible repeat (first | refine blk_drewN ?_ _ | refine blk_drew ?_ | refine blk_alloc ?_ _)); exact BK245.out⟩, ⟨by (with_reducible repeat (first | refine blk_drewN ?_ _ | refine blk_drew ?_ | refine blk_alloc ?_ _)); exact BK251.out⟩, ⟨by repeat (first | (with_reducible first | exact HB.out | apply below_alloc | apply pw_below_drewN | apply below_drew1 | refine below_set ?_ GE245.out | refine below_set ?_ GE251.out) | exact HB.out)⟩⟩
                            · rw [if_neg c36] at H
                              exact absurd H (by simp)
                          · rw [if_neg c35] at H
                            exact absurd H (by simp)
                        · rw [if_neg c34] at H
                          exact absurd H (by simp)
                      · replace c33 := Bool.eq_false_iff.mpr c33
                        subst c33
                        have H1 : (feluccalaw17_LeastShuts.l1 k3 l0 a1 l6 t239 t244 t255 false x23_2 (wrap64 (x24_3 + 1)) t240 t243 t246 t249) = some r := by rw [if_neg (show ¬ (false = true) by decide)] at H; exact H
                        clear H
                        have H := H1
                        clear H1
                        have H' := Aside0.mk H
                        clear H
                        go_wp2
                        repeat (go_quiet (fail); try go_wp2)
                        go_roundg k3
                        case measure => have := HJ8.out; have := HK2.out; have := HK3.out; omega
                        case rel => exact ⟨(false), (wrap64 (x24_3 + 1)), (by first | rfl | (simp; done) | (simp [*]; done)), (by first | rfl | (simp; done) | (simp [*]; done)), H', ⟨by have := HJ8.out; have := HK2.out; have := HK3.out; omega⟩, ⟨by (with_reducible repeat (first | apply Kd.R_alloc | apply Kd.R_drewN | apply Kd.R_drew)); exact HO_20.out⟩, ⟨by (with_reducible repeat (first | apply Kd.R_alloc | apply Kd.R_drewN | apply Kd.R_drew)); exact HO_246000.out⟩, ⟨by (with_reducible repeat (first | apply Kd.R_alloc | apply Kd.R_drewN | apply Kd.R_drew)); exact HO_252000.out⟩, ⟨by (with_reducible repeat (first | refine blk_drewN ?_ _ | refine blk_drew ?_ | refine blk_alloc ?_ _)); exact BK245.out⟩, ⟨by (with_reducible repeat (first | refine blk_drewN ?_ _ | refine blk_drew ?_ | refine blk_alloc ?_ _)); exact BK251.out⟩, ⟨by repeat (first | (with_reducible first | exact HB.out | apply below_alloc | apply pw_below_drewN | apply below_drew1 | refine below_set ?_ GE245.out | refine below_set ?_ GE251.out) | exact HB.out)⟩⟩
                    · rw [if_neg c32] at H
                      have c32b0 : decide (x24_3 < (l6.length : Int)) = false := decide_eq_false c32
                      clear c32
                      have H' := Aside0.mk H
                      clear H
                      go_wp2
                      repeat (go_quiet (fail); try go_wp2)
                      go_roundg k3
                      case measure => have := HJ8.out; have := HK2.out; have := HK3.out; omega
                      case rel => exact ⟨(x22_3), (wrap64 (x23_2 + 1)), (by first | rfl | (simp; done) | (simp [*]; done)), (by first | rfl | (simp; done) | (simp [*]; done)), H', ⟨by have := HJ8.out; have := HK2.out; have := HK3.out; omega⟩, ⟨by (with_reducible repeat (first | apply Kd.R_alloc | apply Kd.R_drewN | apply Kd.R_drew)); exact HO_20.out⟩, ⟨by (with_reducible repeat (first | apply Kd.R_alloc | apply Kd.R_drewN | apply Kd.R_drew)); exact HO_246000.out⟩, ⟨by (with_reducible repeat (first | apply Kd.R_alloc | apply Kd.R_drewN | apply Kd.R_drew)); exact HO_252000.out⟩, ⟨by (with_reducible repeat (first | refine blk_drewN ?_ _ | refine blk_drew ?_ | refine blk_alloc ?_ _)); exact BK245.out⟩, ⟨by (with_reducible repeat (first | refine blk_drewN ?_ _ | refine blk_drew ?_ | refine blk_alloc ?_ _)); exact BK251.out⟩, ⟨by repeat (first | (with_reducible first | exact HB.out | apply below_alloc | apply pw_below_drewN | apply below_drew1 | refine below_set ?_ GE245.out | refine below_set ?_ GE251.out) | exact HB.out)⟩⟩
              · rw [if_neg c30] at H
                have c30b0 : decide (x23_2 < (t255.length : Int)) = false := decide_eq_false c30
                clear c30
                replace H := Option.bind_eq_some_iff.mp H
                obtain ⟨t261, A370, H⟩ := H
                replace H : ((path_Ends.f k2 l0 t261 a1).bind fun bt264 => (feluccalaw17_LeastShuts.l2 k2 l6 t239 t244 x22_2 bt264.1 bt264.2 1 t240 t243 t246 t249)) = some r := H
                have A37 := Aside0.mk A370
                clear A370
                replace H := Option.bind_eq_some_iff.mp H
                obtain ⟨⟨t264, t265⟩, A380, H⟩ := H
                replace H : (feluccalaw17_LeastShuts.l2 k2 l6 t239 t244 x22_2 t264 t265 1 t240 t243 t246 t249) = some r := H
                have A38 := Aside0.mk A380
                clear A380
                have H' := Aside0.mk H
                clear H
                obtain ⟨Ao39, co39, eo39⟩ := Kd.R_slice HO_20.out
                subst eo39
                have hnb40 := NB245_251.out
                have hnc40 := NB251_245.out
                have hcz41_0 : wr.cell? ⟨gb245, 0, none⟩ = some (.slice Ao20 t240.length co20) := (blk_cell BK245.out 0).trans rfl
                have hcz41_1 : wr.cell? ⟨gb245, 1, none⟩ = some (.int .i64 t243) := (blk_cell BK245.out 1).trans rfl
                have hfz41_0 := blk_frozen BK245.out 0
                have hfz41_1 := blk_frozen BK245.out 1
                go_wp2_with (first | (go_at_call 17; (with_reducible refine (path_IDs.calls k2 _ _ t240 t243 t261 _ ?side1 ?side2 A37.out).mono ?_); (case side1 => repeat (first | exact (Kd.R_reads' HO_246000.out).2.2 | (with_reducible refine Kd.C_alloc ?_ _) | (with_reducible refine Kd.C_drewN ?_ _) | (with_reducible refine Kd.C_drew ?_))); (case side2 => exact (Kd.R_reads' HO_246000.out).2.1); rintro e w42 ⟨v262, rfl, ho0, hb⟩; have n0_ := Aside0.mk (Kd.R_elder' (by (with_reducible repeat (first | apply Kd.R_alloc | apply Kd.R_drewN | apply Kd.R_drew)); exact HO_20.out) (Kd.R_base ho0) hb); have n1_ := Aside0.mk (Kd.R_below (by (with_reducible repeat (first | apply Kd.R_alloc | apply Kd.R_drewN | apply Kd.R_drew)); exact HO_246000.out) hb); have n2_ := Aside0.mk (Kd.R_below (by (with_reducible repeat (first | apply Kd.R_alloc | apply Kd.R_drewN | apply Kd.R_drew)); exact HO_252000.out) hb); have n3_ := Aside0.mk (Kd.R_lower (Kd.R_new' ho0 (Kd.R_lt (by (with_reducible repeat (first | apply Kd.R_alloc | apply Kd.R_drewN | apply Kd.R_drew)); exact HO_20.out))) (below_size (by repeat (first | (with_reducible first | exact HB.out | apply below_alloc | apply pw_below_drewN | apply below_drew1 | refine below_set ?_ GE245.out | refine below_set ?_ GE251.out) | exact HB.out)))); have n4_ := Aside0.mk (blk_below (g := gb245) (o := .cells #[.slice Ao20 t240.length co20, .int .i64 t243] 27 (0, 0)) (by (with_reducible repeat (first | refine blk_drewN ?_ _ | refine blk_drew ?_ | refine blk_alloc ?_ _)); exact BK245.out) hb); have n5_ := Aside0.mk (blk_below (g := gb251) (o := .cells #[.slice Ao24 t246.length co24, .int .i64 t249] 27 (0, 0)) (by (with_reducible repeat (first | refine blk_drewN ?_ _ | refine blk_drew ?_ | refine blk_alloc ?_ _)); exact BK251.out) hb); have n6_ := Aside0.mk (below_step (by repeat (first | (with_reducible first | exact HB.out | apply below_alloc | apply pw_below_drewN | apply below_drew1 | refine below_set ?_ GE245.out | refine below_set ?_ GE251.out) | exact HB.out)) hb); clear HO_20; clear HO_246000; clear HO_252000; clear BK245; clear BK251; clear HB; have HO_20 := n0_; have HO_246000 := n1_; have HO_252000 := n2_; have HO263 := n3_; have BK245 := n4_; have BK251 := n5_; have HB := n6_; clear n0_ n1_ n2_ n3_ n4_ n5_ n6_; (try clear hb); (try clear hb2); (try clear hk); (try clear hi); (try clear ho0); obtain ⟨Ao43, co43, eo43⟩ := Kd.R_slice HO263.out; subst eo43) | (go_at_call 16; (with_reducible refine (path_Ends.calls k2 _ _ l0 _ _ t261 a1 t264 t265 _ ?side1 ?side2 ?side3 ?side4 A38.out).mono ?_); (case side1 => repeat (first | exact (Kd.C_below HR0.out HB.out) | (with_reducible refine Kd.C_alloc ?_ _) | (with_reducible refine Kd.C_drewN ?_ _) | (with_reducible refine Kd.C_drew ?_))); (case side2 => exact HC0.out); (case side3 => repeat (first | exact (Kd.R_reads' HO263.out).2.2 | (with_reducible refine Kd.C_alloc ?_ _) | (with_reducible refine Kd.C_drewN ?_ _) | (with_reducible refine Kd.C_drew ?_))); (case side4 => exact (Kd.R_reads' HO263.out).2.1); rintro e w44 ⟨v266, rfl, ho0, hb⟩; have n0_ := Aside0.mk (Kd.R_elder' (by (with_reducible repeat (first | apply Kd.R_alloc | apply Kd.R_drewN | apply Kd.R_drew)); exact HO_20.out) (Kd.R_base ho0) hb); have n1_ := Aside0.mk (Kd.R_below (by (with_reducible repeat (first | apply Kd.R_alloc | apply Kd.R_drewN | apply Kd.R_drew)); exact HO_246000.out) hb); have n2_ := Aside0.mk (Kd.R_below (by (with_reducible repeat (first | apply Kd.R_alloc | apply Kd.R_drewN | apply Kd.R_drew)); exact HO_252000.out) hb); have n3_ := Aside0.mk (Kd.R_elder' (by (with_reducible repeat (first | apply Kd.R_alloc | apply Kd.R_drewN | apply Kd.R_drew)); exact HO263.out) (Kd.R_base ho0) hb); have n4_ := Aside0.mk (Kd.R_lower (Kd.R_new' (Kd.R_new' ho0 (Kd.R_lt (by (with_reducible repeat (first | apply Kd.R_alloc | apply Kd.R_drewN | apply Kd.R_drew)); exact HO_20.out))) (Kd.R_lt (by (with_reducible repeat (first | apply Kd.R_alloc | apply Kd.R_drewN | apply Kd.R_drew)); exact HO263.out))) (below_size (by repeat (first | (with_reducible first | exact HB.out | apply below_alloc | apply pw_below_drewN | apply below_drew1 | refine below_set ?_ GE245.out | refine below_set ?_ GE251.out) | exact HB.out)))); have n5_ := Aside0.mk (blk_below (g := gb245) (o := .cells #[.slice Ao20 t240.length co20, .int .i64 t243] 27 (0, 0)) (by (with_reducible repeat (first | refine blk_drewN ?_ _ | refine blk_drew ?_ | refine blk_alloc ?_ _)); exact BK245.out) hb); have n6_ := Aside0.mk (blk_below (g := gb251) (o := .cells #[.slice Ao24 t246.length co24, .int .i64 t249] 27 (0, 0)) (by (with_reducible repeat (first | refine blk_drewN ?_ _ | refine blk_drew ?_ | refine blk_alloc ?_ _)); exact BK251.out) hb); have n7_ := Aside0.mk (below_step (by repeat (first | (with_reducible first | exact HB.out | apply below_alloc | apply pw_below_drewN | apply below_drew1 | refine below_set ?_ GE245.out | refine below_set ?_ GE251.out) | exact HB.out)) hb); clear HO_20; clear HO_246000; clear HO_252000; clear HO263; clear BK245; clear BK251; clear HB; have HO_20 := n0_; have HO_246000 := n1_; have HO_252000 := n2_; have HO263 := n3_; have HO267 := n4_; have BK245 := n5_; have BK251 := n6_; have HB := n7_; clear n0_ n1_ n2_ n3_ n4_ n5_ n6_ n7_; (try clear hb); (try clear hb2); (try clear hk); (try clear hi); (try clear ho0)))
                go_loopg [27] k2 (fun kq v27 w' => ∃ (x27_3 : Int), v27 = .int .i64 x27_3 ∧ Aside0 (feluccalaw17_LeastShuts.l2 kq l6 t239 t244 x22_2 t264 t265 x27_3 t240 t243 t246 t249 = some r) ∧ Aside0 (kq ≤ k2) ∧ Aside0 (Kd.R (Kd.int .i64) 3 w' w.heap.size (fun _ => True) v266 t264) ∧ Aside0 (Kd.R k56 56 w' w.heap.size (fun k_ => some k_ ≠ ((.slice Ao24 t246.length co24) : Value).ownBlock) (.slice Ao20 t240.length co20) t240) ∧ Aside0 (Kd.R k56 56 w' w.heap.size (fun k_ => some k_ ≠ ((.slice Ao20 t240.length co20) : Value).ownBlock) (.slice Ao24 t246.length co24) t246) ∧ Aside0 (w'.heap[gb245]? = some (.cells #[(.slice Ao20 t240.length co20), .int .i64 t243] 27 (0, 0))) ∧ Aside0 (w'.heap[gb251]? = some (.cells #[(.slice Ao24 t246.length co24), .int .i64 t249] 27 (0, 0))) ∧ Aside0 (Below w.heap.size w w'))
                case atStart => exact ⟨(1), (by first | rfl | (simp; done) | (simp [*]; done)), H', ⟨Nat.le_refl _⟩, ⟨by (with_reducible repeat (first | apply Kd.R_alloc | apply Kd.R_drewN | apply Kd.R_drew)); exact Kd.R_mono HO267.out (fun _ hk => trivial)⟩, ⟨by (with_reducible repeat (first | apply Kd.R_alloc | apply Kd.R_drewN | apply Kd.R_drew)); exact HO_246000.out⟩, ⟨by (with_reducible repeat (first | apply Kd.R_alloc | apply Kd.R_drewN | apply Kd.R_drew)); exact HO_252000.out⟩, ⟨by (with_reducible repeat (first | refine blk_drewN ?_ _ | refine blk_drew ?_ | refine blk_alloc ?_ _)); exact BK245.out⟩, ⟨by (with_reducible repeat (first | refine blk_drewN ?_ _ | refine blk_drew ?_ | refine blk_alloc ?_ _)); exact BK251.out⟩, ⟨by repeat (first | (with_reducible first | exact HB.out | apply below_alloc | apply pw_below_drewN | apply below_drew1 | refine below_set ?_ GE245.out | refine below_set ?_ GE251.out) | exact HB.out)⟩⟩
                case round =>
                  clear H'
                  try clear c1
                  try clear c2
                  try clear p2
                  try clear q2
                  try clear hx2
                  try clear c3
                  try clear c4
                  try clear c6
                  try clear p6
                  try clear c11
                  try clear c11b0
                  try clear c11b1
                  try clear c12
                  try clear c17
                  try clear c25
                  try clear p25
                  try clear q25
                  try clear hx25
                  try clear p26
                  try clear q26
                  try clear hx26
                  try clear c30
                  try clear c30b0
                  try clear c32
                  try clear c32b0
                  try clear c33
                  try clear c34
                  try clear c34b0
                  try clear c35
                  try clear c35b0
                  try clear c36
                  try clear c36b0
                  try clear c40
                  try clear hcz21_0
                  try clear hcz21_1
                  try clear hcz26_0
                  try clear hcz26_1
                  try clear hcz41_0
                  try clear hcz41_1
                  try clear hfz21_0
                  try clear hfz21_1
                  try clear hfz26_0
                  try clear hfz26_1
                  try clear hfz41_0
                  try clear hfz41_1
                  try clear hx259_0
                  try clear hx260_0
                  try clear p2
                  try clear p259
                  try clear p260
                  try clear q259
                  try clear q260
                  obtain ⟨x27_3, rfl, HA, HK3, HO_25, HO_246000, HO_252000, BK245, BK251, HB⟩ := hrel
                  cases gk with
                  | zero => exact absurd HA.out (by simp [feluccalaw17_LeastShuts.l2])
                  | succ k3 =>
                    have H := HA.out
                    clear HA
                    simp only [feluccalaw17_LeastShuts.l2] at H
                    have HC45 := Aside0.mk H
                    clear H
                    go_upto_region 19 with (fail)
                    repeat (go_quiet (fail); go_upto_region 19 with (fail))
                    go_cut [120] (fun v120 wc => ∃ (kq : Nat) (x120_44 : Bool), v120 = .bool x120_44 ∧ Aside0 (feluccalaw17_LeastShuts.j4 kq l6 t239 t244 x22_2 t264 t265 x27_3 x120_44 t240 t243 t246 t249 = some r) ∧ Aside0 (kq ≤ k3) ∧ Aside0 (Kd.R (Kd.int .i64) 3 wc w.heap.size (fun _ => True) v266 t264) ∧ Aside0 (Kd.R k56 56 wc w.heap.size (fun k_ => some k_ ≠ ((.slice Ao24 t246.length co24) : Value).ownBlock) (.slice Ao20 t240.length co20) t240) ∧ Aside0 (Kd.R k56 56 wc w.heap.size (fun k_ => some k_ ≠ ((.slice Ao20 t240.length co20) : Value).ownBlock) (.slice Ao24 t246.length co24) t246) ∧ Aside0 (wc.heap[gb245]? = some (.cells #[(.slice Ao20 t240.length co20), .int .i64 t243] 27 (0, 0))) ∧ Aside0 (wc.heap[gb251]? = some (.cells #[(.slice Ao24 t246.length co24), .int .i64 t249] 27 (0, 0))) ∧ Aside0 (Below w.heap.size w wc))
                    case first =>
                      have H := HC45.out
                      clear HC45
                      by_cases c46 : t244 = true
                      · subst c46
                        have H1 : (feluccalaw17_LeastShuts.j4 k3 l6 t239 true x22_2 t264 t265 x27_3 (decide (x27_3 < (t264.length : Int))) t240 t243 t246 t249) = some r := by rw [if_pos rfl] at H; exact H
                        clear H
                        have H := H1
                        clear H1
                        have H' := Aside0.mk H
                        clear H
                        obtain ⟨Ao47, co47, eo47⟩ := Kd.R_slice HO_25.out
                        subst eo47
                        go_wp2
                        repeat (go_quiet (fail); try go_wp2)
                        go_meet
                        case rel => exact ⟨_, (decide (x27_3 < (t264.length : Int))), (by first | rfl | (simp; done) | (simp [*]; done)), H', ⟨by have := HJ8.out; have := HK2.out; have := HK3.out; first | omega | exact Nat.le_refl _⟩, ⟨by (with_reducible repeat (first | apply Kd.R_alloc | apply Kd.R_drewN | apply Kd.R_drew)); exact HO_25.out⟩, ⟨by (with_reducible repeat (first | apply Kd.R_alloc | apply Kd.R_drewN | apply Kd.R_drew)); exact HO_246000.out⟩, ⟨by (with_reducible repeat (first | apply Kd.R_alloc | apply Kd.R_drewN | apply Kd.R_drew)); exact HO_252000.out⟩, ⟨by (with_reducible repeat (first | refine blk_drewN ?_ _ | refine blk_drew ?_ | refine blk_alloc ?_ _)); exact BK245.out⟩, ⟨by (with_reducible repeat (first | refine blk_drewN ?_ _ | refine blk_drew ?_ | refine blk_alloc ?_ _)); exact BK251.out⟩, ⟨by repeat (first | (with_reducible first | exact HB.out | apply below_alloc | apply pw_below_drewN | apply below_drew1 | refine below_set ?_ GE245.out | refine below_set ?_ GE251.out) | exact HB.out)⟩⟩
                      · replace c46 := Bool.eq_false_iff.mpr c46
                        subst c46
                        have H1 : (feluccalaw17_LeastShuts.j4 k3 l6 t239 false x22_2 t264 t265 x27_3 false t240 t243 t246 t249) = some r := by rw [if_neg (show ¬ (false = true) by decide)] at H; exact H
                        clear H
                        have H := H1
                        clear H1
                        have H' := Aside0.mk H
                        clear H
                        go_wp2
                        repeat (go_quiet (fail); try go_wp2)
                        go_meet
                        case rel => exact ⟨_, (false), (by first | rfl | (simp; done) | (simp [*]; done)), H', ⟨by have := HJ8.out; have := HK2.out; have := HK3.out; first | omega | exact Nat.le_refl _⟩, ⟨by (with_reducible repeat (first | apply Kd.R_alloc | apply Kd.R_drewN | apply Kd.R_drew)); exact HO_25.out⟩, ⟨by (with_reducible repeat (first | apply Kd.R_alloc | apply Kd.R_drewN | apply Kd.R_drew)); exact HO_246000.out⟩, ⟨by (with_reducible repeat (first | apply Kd.R_alloc | apply Kd.R_drewN | apply Kd.R_drew)); exact HO_252000.out⟩, ⟨by (with_reducible repeat (first | refine blk_drewN ?_ _ | refine blk_drew ?_ | refine blk_alloc ?_ _)); exact BK245.out⟩, ⟨by (with_reducible repeat (first | refine blk_drewN ?_ _ | refine blk_drew ?_ | refine blk_alloc ?_ _)); exact BK251.out⟩, ⟨by repeat (first | (with_reducible first | exact HB.out | apply below_alloc | apply pw_below_drewN | apply below_drew1 | refine below_set ?_ GE245.out | refine below_set ?_ GE251.out) | exact HB.out)⟩⟩
                    case rest =>
                      clear HC45
                      try clear c1
                      try clear c2
                      try clear p2
                      try clear q2
                      try clear hx2
                      try clear c3
                      try clear c4
                      try clear c6
                      try clear p6
                      try clear c11
                      try clear c11b0
                      try clear c11b1
                      try clear c12
                      try clear c17
                      try clear c25
                      try clear p25
                      try clear q25
                      try clear hx25
                      try clear p26
                      try clear q26
                      try clear hx26
                      try clear c30
                      try clear c30b0
                      try clear c32
                      try clear c32b0
                      try clear c33
                      try clear c34
                      try clear c34b0
                      try clear c35
                      try clear c35b0
                      try clear c36
                      try clear c36b0
                      try clear c40
                      try clear c46
                      try clear hcz21_0
                      try clear hcz21_1
                      try clear hcz26_0
                      try clear hcz26_1
                      try clear hcz41_0
                      try clear hcz41_1
                      try clear hfz21_0
                      try clear hfz21_1
                      try clear hfz26_0
                      try clear hfz26_1
                      try clear hfz41_0
                      try clear hfz41_1
                      try clear hx259_0
                      try clear hx260_0
                      try clear p2
                      try clear p25
                      try clear p259
                      try clear p26
                      try clear p260
                      try clear p6
                      try clear q2
                      try clear q25
                      try clear q259
                      try clear q26
                      try clear q260
                      obtain ⟨kq, x120_44, rfl, HA, HJ44, HO_25, HO_246000, HO_252000, BK245, BK251, HB⟩ := hcut
                      cases kq with
                      | zero => exact absurd HA.out (by simp [feluccalaw17_LeastShuts.j4])
                      | succ kj44 =>
                        have H := HA.out
                        clear HA
                        simp only [feluccalaw17_LeastShuts.j4] at H
                        by_cases c48 : x120_44 = true
                        · subst c48
                          have H1 : (feluccalaw17_LeastShuts.l3 kj44 l6 t239 t244 x22_2 t264 t265 x27_3 0 t240 t243 t246 t249) = some r := by rw [if_pos rfl] at H; exact H
                          clear H
                          have H := H1
                          clear H1
                          have H' := Aside0.mk H
                          clear H
                          go_wp2
                          repeat (go_quiet (fail); try go_wp2)
                          go_loopg [28] kj44 (fun kq v28 w' => ∃ (x28_5 : Int), v28 = .int .i64 x28_5 ∧ Aside0 (feluccalaw17_LeastShuts.l3 kq l6 t239 t244 x22_2 t264 t265 x27_3 x28_5 t240 t243 t246 t249 = some r) ∧ Aside0 (kq ≤ kj44) ∧ Aside0 (Kd.R (Kd.int .i64) 3 w' w.heap.size (fun _ => True) v266 t264) ∧ Aside0 (Kd.R k56 56 w' w.heap.size (fun k_ => some k_ ≠ ((.slice Ao24 t246.length co24) : Value).ownBlock) (.slice Ao20 t240.length co20) t240) ∧ Aside0 (Kd.R k56 56 w' w.heap.size (fun k_ => some k_ ≠ ((.slice Ao20 t240.length co20) : Value).ownBlock) (.slice Ao24 t246.length co24) t246) ∧ Aside0 (w'.heap[gb245]? = some (.cells #[(.slice Ao20 t240.length co20), .int .i64 t243] 27 (0, 0))) ∧ Aside0 (w'.heap[gb251]? = some (.cells #[(.slice Ao24 t246.length co24), .int .i64 t249] 27 (0, 0))) ∧ Aside0 (Below w.heap.size w w'))
                          case atStart => exact ⟨(0), (by first | rfl | (simp; done) | (simp [*]; done)), H', ⟨Nat.le_refl _⟩, ⟨by (with_reducible repeat (first | apply Kd.R_alloc | apply Kd.R_drewN | apply Kd.R_drew)); exact HO_25.out⟩, ⟨by (with_reducible repeat (first | apply Kd.R_alloc | apply Kd.R_drewN | apply Kd.R_drew)); exact HO_246000.out⟩, ⟨by (with_reducible repeat (first | apply Kd.R_alloc | apply Kd.R_drewN | apply Kd.R_drew)); exact HO_252000.out⟩, ⟨by (with_reducible repeat (first | refine blk_drewN ?_ _ | refine blk_drew ?_ | refine blk_alloc ?_ _)); exact BK245.out⟩, ⟨by (with_reducible repeat (first | refine blk_drewN ?_ _ | refine blk_drew ?_ | refine blk_alloc ?_ _)); exact BK251.out⟩, ⟨by repeat (first | (with_reducible first | exact HB.out | apply below_alloc | apply pw_below_drewN | apply below_drew1 | refine below_set ?_ GE245.out | refine below_set ?_ GE251.out) | exact HB.out)⟩⟩
                          case round =>
                            clear H'
                            try clear c1
                            try clear c2
                            try clear p2
                            try clear q2
                            try clear hx2
                            try clear c3
                            try clear c4
                            try clear c6
                            try clear p6
                            try clear c11
                            try clear c11b0
                            try clear c11b1
                            try clear c12
                            try clear c17
                            try clear c25
                            try clear p25
                            try clear q25
                            try clear hx25
                            try clear p26
                            try clear q26
                            try clear hx26
                            try clear c30
                            try clear c30b0
                            try clear c32
                            try clear c32b0
                            try clear c33
                            try clear c34
                            try clear c34b0
                            try clear c35
                            try clear c35b0
                            try clear c36
                            try clear c36b0
                            try clear c40
                            try clear c46
                            try clear c48
                            try clear hcz21_0
                            try clear hcz21_1
                            try clear hcz26_0
                            try clear hcz26_1
                            try clear hcz41_0
                            try clear hcz41_1
                            try clear hfz21_0
                            try clear hfz21_1
                            try clear hfz26_0
                            try clear hfz26_1
                            try clear hfz41_0
                            try clear hfz41_1
                            try clear hx259_0
                            try clear hx260_0
                            try clear p2
                            try clear p25
                            try clear p259
                            try clear p26
                            try clear p260
                            try clear p6
                            try clear q2
                            try clear q25
                            try clear q259
                            try clear q26
                            try clear q260
                            obtain ⟨x28_5, rfl, HA, HK5, HO_25, HO_246000, HO_252000, BK245, BK251, HB⟩ := hrel
                            cases gk with
                            | zero => exact absurd HA.out (by simp [feluccalaw17_LeastShuts.l3])
                            | succ k5 =>
                              have H := HA.out
                              clear HA
                              simp only [feluccalaw17_LeastShuts.l3] at H
                              by_cases c49 : x28_5 < (l6.length : Int)
                              · rw [if_pos c49] at H
                                have c49b0 : decide (x28_5 < (l6.length : Int)) = true := decide_eq_true c49
                                clear c49
                                by_cases c50 : 0 ≤ x27_3
                                · rw [if_pos c50] at H
                                  have c50b0 : decide (0 ≤ x27_3) = true := decide_eq_true c50
                                  clear c50
                                  by_cases c51 : x27_3 < (t264.length : Int)
                                  · rw [if_pos c51] at H
                                    have c51b0 : decide (x27_3 < (t264.length : Int)) = true := decide_eq_true c51
                                    clear c51
                                    by_cases c52 : 0 ≤ x28_5
                                    · rw [if_pos c52] at H
                                      have c52b0 : decide (0 ≤ x28_5) = true := decide_eq_true c52
                                      clear c52
                                      by_cases c53 : (rd t264 x27_3) = (rd l6 x28_5)
                                      · rw [if_pos c53] at H
                                        have c53b0 : ((rd t264 x27_3) == (rd l6 x28_5)) = true := beq_iff_eq.mpr c53
                                        have c53b1 : ((rd t264 x27_3) != (rd l6 x28_5)) = false := bne_eq_false_iff_eq.mpr c53
                                        clear c53
                                        obtain rfl := Option.some.inj H
                                        obtain ⟨Ao54, co54, eo54⟩ := Kd.R_slice HO_25.out
                                        subst eo54
                                        have p271 : 0 ≤ (x27_3 : Int) := of_decide_eq_true (by first | (with_reducible assumption) | assumption)
                                        have q271 : x27_3 < (t264.length : Int) := of_decide_eq_true (by first | (with_reducible assumption) | assumption)
                                        obtain ⟨ad271, e271, hx271_0⟩ := Kd.at_int (Kd.R_reads' HO_25.out).2.2 x27_3 p271 q271
                                        cases e271
                                        replace p271 := eq_true p271
                                        replace q271 := eq_true q271
                                        have p272 : 0 ≤ (x28_5 : Int) := of_decide_eq_true (by first | (with_reducible assumption) | assumption)
                                        have q272 : x28_5 < (l6.length : Int) := of_decide_eq_true (by first | (with_reducible assumption) | assumption)
                                        obtain ⟨ad272, e272, hx272_0⟩ := Kd.at_int HR6.out x28_5 p272 q272
                                        cases e272
                                        replace hx272_0 := (HB.out.cell (World.block_lt_of_cell? w _ hx272_0)).trans hx272_0
                                        replace p272 := eq_true p272
                                        replace q272 := eq_true q272
                                        go_wp2
                                        repeat (go_quiet (fail); try go_wp2)
                                        go_ret
                                        exact ⟨by first | rfl | (simp [errW_none, errW_some] <;> rfl) | (simp [*, errW_none, errW_some] <;> rfl), by repeat (first | (with_reducible first | exact HB.out | apply below_alloc | apply pw_below_drewN | apply below_drew1 | refine below_set ?_ GE245.out | refine below_set ?_ GE251.out) | exact HB.out)⟩
                                      · rw [if_neg c53] at H
                                        have c53b0 : ((rd t264 x27_3) == (rd l6 x28_5)) = false := beq_eq_false_iff_ne.mpr c53
                                        have c53b1 : ((rd t264 x27_3) != (rd l6 x28_5)) = true := bne_iff_ne.mpr c53
                                        have H' := Aside0.mk H
                                        clear H
                                        obtain ⟨Ao55, co55, eo55⟩ := Kd.R_slice HO_25.out
                                        subst eo55
                                        have p271 : 0 ≤ (x27_3 : Int) := of_decide_eq_true (by first | (with_reducible assumption) | assumption)
                                        have q271 : x27_3 < (t264.length : Int) := of_decide_eq_true (by first | (with_reducible assumption) | assumption)
                                        obtain ⟨ad271, e271, hx271_0⟩ := Kd.at_int (Kd.R_reads' HO_25.out).2.2 x27_3 p271 q271
                                        cases e271
                                        replace p271 := eq_true p271
                                        replace q271 := eq_true q271
                                        have p272 : 0 ≤ (x28_5 : Int) := of_decide_eq_true (by first | (with_reducible assumption) | assumption)
                                        have q272 : x28_5 < (l6.length : Int) := of_decide_eq_true (by first | (with_reducible assumption) | assumption)
                                        obtain ⟨ad272, e272, hx272_0⟩ := Kd.at_int HR6.out x28_5 p272 q272
                                        cases e272
                                        replace hx272_0 := (HB.out.cell (World.block_lt_of_cell? w _ hx272_0)).trans hx272_0
                                        replace p272 := eq_true p272
                                        replace q272 := eq_true q272
                                        go_wp2
                                        repeat (go_quiet (fail); try go_wp2)
                                        go_roundg k5
                                        case measure => have := HJ8.out; have := HK2.out; have := HK3.out; have := HJ44.out; have := HK5.out; omega
                                        case rel => exact ⟨(wrap64 (x28_5 + 1)), (by first | rfl | (simp; done) | (simp [*]; done)), H', ⟨by have := HJ8.out; have := HK2.out; have := HK3.out; have := HJ44.out; have := HK5.out; omega⟩, ⟨by (with_reducible repeat (first | apply Kd.R_alloc | apply Kd.R_drewN | apply Kd.R_drew)); exact HO_25.out⟩, ⟨by (with_reducible repeat (first | apply Kd.R_alloc | apply Kd.R_drewN | apply Kd.R_drew)); exact HO_246000.out⟩, ⟨by (with_reducible repeat (first | apply Kd.R_alloc | apply Kd.R_drewN | apply Kd.R_drew)); exact HO_252000.out⟩, ⟨by (with_reducible repeat (first | refine blk_drewN ?_ _ | refine blk_drew ?_ | refine blk_alloc ?_ _)); exact BK245.out⟩, ⟨by (with_reducible repeat (first | refine blk_drewN ?_ _ | refine blk_drew ?_ | refine blk_alloc ?_ _)); exact BK251.out⟩, ⟨by repeat (first | (with_reducible first | exact HB.out | apply below_alloc | apply pw_below_drewN | apply below_drew1 | refine below_set ?_ GE245.out | refine below_set ?_ GE251.out) | exact HB.out)⟩⟩
                                    · rw [if_neg c52] at H
                                      exact absurd H (by simp)
                                  · rw [if_neg c51] at H
                                    exact absurd H (by simp)
                                · rw [if_neg c50] at H
                                  exact absurd H (by simp)
                              · rw [if_neg c49] at H
                                have c49b0 : decide (x28_5 < (l6.length : Int)) = false := decide_eq_false c49
                                clear c49
                                have H' := Aside0.mk H
                                clear H
                                go_wp2
                                repeat (go_quiet (fail); try go_wp2)
                                go_roundg k5
                                case measure => have := HJ8.out; have := HK2.out; have := HK3.out; have := HJ44.out; have := HK5.out; omega
                                case rel => exact ⟨(wrap64 (x27_3 + 1)), (by first | rfl | (simp; done) | (simp [*]; done)), H', ⟨by have := HJ8.out; have := HK2.out; have := HK3.out; have := HJ44.out; have := HK5.out; omega⟩, ⟨by (with_reducible repeat (first | apply Kd.R_alloc | apply Kd.R_drewN | apply Kd.R_drew)); exact HO_25.out⟩, ⟨by (with_reducible repeat (first | apply Kd.R_alloc | apply Kd.R_drewN | apply Kd.R_drew)); exact HO_246000.out⟩, ⟨by (with_reducible repeat (first | apply Kd.R_alloc | apply Kd.R_drewN | apply Kd.R_drew)); exact HO_252000.out⟩, ⟨by (with_reducible repeat (first | refine blk_drewN ?_ _ | refine blk_drew ?_ | refine blk_alloc ?_ _)); exact BK245.out⟩, ⟨by (with_reducible repeat (first | refine blk_drewN ?_ _ | refine blk_drew ?_ | refine blk_alloc ?_ _)); exact BK251.out⟩, ⟨by repeat (first | (with_reducible first | exact HB.out | apply below_alloc | apply pw_below_drewN | apply below_drew1 | refine below_set ?_ GE245.out | refine below_set ?_ GE251.out) | exact HB.out)⟩⟩
                        · replace c48 := Bool.eq_false_iff.mpr c48
                          subst c48
                          have H1 : (if t239 = true then (if x22_2 = true then (if t244 = true then ((path_Same.f kj44 t240 t243 t246 t249).bind fun t268 => (if t268 = true then (if t265 = true then ((order_Compare.f kj44 t246 t249 t240 t243).bind fun t269 => (some (decide (t269 ≤ 0)))) else (some false)) else (some false))) else (some false)) else (if t244 = true then (if t265 = true then ((order_Compare.f kj44 t246 t249 t240 t243).bind fun t270 => (some (decide (t270 ≤ 0)))) else (some false)) else (some true))) else (some false)) = some r := by rw [if_neg (show ¬ (false = true) by decide)] at H; exact H
                          clear H
                          have H := H1
                          clear H1
                          by_cases c56 : t239 = true
                          · subst c56
                            have H1 : (if x22_2 = true then (if t244 = true then ((path_Same.f kj44 t240 t243 t246 t249).bind fun t268 => (if t268 = true then (if t265 = true then ((order_Compare.f kj44 t246 t249 t240 t243).bind fun t269 => (some (decide (t269 ≤ 0)))) else (some false)) else (some false))) else (some false)) else (if t244 = true then (if t265 = true then ((order_Compare.f kj44 t246 t249 t240 t243).bind fun t270 => (some (decide (t270 ≤ 0)))) else (some false)) else (some true))) = some r := by rw [if_pos rfl] at H; exact H
                            clear H
                            have H := H1
                            clear H1
                            by_cases c57 : x22_2 = true
                            · subst c57
                              have H1 : (if t244 = true then ((path_Same.f kj44 t240 t243 t246 t249).bind fun t268 => (if t268 = true then (if t265 = true then ((order_Compare.f kj44 t246 t249 t240 t243).bind fun t269 => (some (decide (t269 ≤ 0)))) else (some false)) else (some false))) else (some false)) = some r := by rw [if_pos rfl] at H; exact H
                              clear H
                              have H := H1
                              clear H1
                              by_cases c58 : t244 = true
                              · subst c58
                                have H1 : ((path_Same.f kj44 t240 t243 t246 t249).bind fun t268 => (if t268 = true then (if t265 = true then ((order_Compare.f kj44 t246 t249 t240 t243).bind fun t269 => (some (decide (t269 ≤ 0)))) else (some false)) else (some false))) = some r := by rw [if_pos rfl] at H; exact H
                                clear H
                                have H := H1
                                clear H1
                                replace H := Option.bind_eq_some_iff.mp H
                                obtain ⟨t268, A590, H⟩ := H
                                replace H : (if t268 = true then (if t265 = true then ((order_Compare.f kj44 t246 t249 t240 t243).bind fun t269 => (some (decide (t269 ≤ 0)))) else (some false)) else (some false)) = some r := H
                                have A59 := Aside0.mk A590
                                clear A590
                                by_cases c60 : t268 = true
                                · subst c60
                                  have H1 : (if t265 = true then ((order_Compare.f kj44 t246 t249 t240 t243).bind fun t269 => (some (decide (t269 ≤ 0)))) else (some false)) = some r := by rw [if_pos rfl] at H; exact H
                                  clear H
                                  have H := H1
                                  clear H1
                                  by_cases c61 : t265 = true
                                  · subst c61
                                    have H1 : ((order_Compare.f kj44 t246 t249 t240 t243).bind fun t269 => (some (decide (t269 ≤ 0)))) = some r := by rw [if_pos rfl] at H; exact H
                                    clear H
                                    have H := H1
                                    clear H1
                                    replace H := Option.bind_eq_some_iff.mp H
                                    obtain ⟨t269, A620, H⟩ := H
                                    replace H : (some (decide (t269 ≤ 0))) = some r := H
                                    have A62 := Aside0.mk A620
                                    clear A620
                                    obtain rfl := Option.some.inj H
                                    have hnb63 := NB245_251.out
                                    have hnc63 := NB251_245.out
                                    have hcz64_0 : wc.cell? ⟨gb245, 0, none⟩ = some (.slice Ao20 t240.length co20) := (blk_cell BK245.out 0).trans rfl
                                    have hcz64_1 : wc.cell? ⟨gb245, 1, none⟩ = some (.int .i64 t243) := (blk_cell BK245.out 1).trans rfl
                                    have hfz64_0 := blk_frozen BK245.out 0
                                    have hfz64_1 := blk_frozen BK245.out 1
                                    have hcz65_0 : wc.cell? ⟨gb251, 0, none⟩ = some (.slice Ao24 t246.length co24) := (blk_cell BK251.out 0).trans rfl
                                    have hcz65_1 : wc.cell? ⟨gb251, 1, none⟩ = some (.int .i64 t249) := (blk_cell BK251.out 1).trans rfl
                                    have hfz65_0 := blk_frozen BK251.out 0
                                    have hfz65_1 := blk_frozen BK251.out 1
                                    go_wp2_with (first | (go_at_call 18; (with_reducible refine (path_Same.calls kj44 _ _ t240 t243 _ _ t246 t249 true _ ?side1 ?side2 ?side3 ?side4 A59.out).mono ?_); (case side1 => repeat (first | exact (Kd.R_reads' HO_246000.out).2.2 | (with_reducible refine Kd.C_alloc ?_ _) | (with_reducible refine Kd.C_drewN ?_ _) | (with_reducible refine Kd.C_drew ?_))); (case side2 => exact (Kd.R_reads' HO_246000.out).2.1); (case side3 => repeat (first | exact (Kd.R_reads' HO_252000.out).2.2 | (with_reducible refine Kd.C_alloc ?_ _) | (with_reducible refine Kd.C_drewN ?_ _) | (with_reducible refine Kd.C_drew ?_))); (case side4 => exact (Kd.R_reads' HO_252000.out).2.1); rintro e w66 ⟨rfl, hb⟩; have n0_ := Aside0.mk (Kd.R_below (by (with_reducible repeat (first | apply Kd.R_alloc | apply Kd.R_drewN | apply Kd.R_drew)); exact HO_25.out) hb); have n1_ := Aside0.mk (Kd.R_below (by (with_reducible repeat (first | apply Kd.R_alloc | apply Kd.R_drewN | apply Kd.R_drew)); exact HO_246000.out) hb); have n2_ := Aside0.mk (Kd.R_below (by (with_reducible repeat (first | apply Kd.R_alloc | apply Kd.R_drewN | apply Kd.R_drew)); exact HO_252000.out) hb); have n3_ := Aside0.mk (blk_below (g := gb245) (o := .cells #[.slice Ao20 t240.length co20, .int .i64 t243] 27 (0, 0)) (by (with_reducible repeat (first | refine blk_drewN ?_ _ | refine blk_drew ?_ | refine blk_alloc ?_ _)); exact BK245.out) hb); have n4_ := Aside0.mk (blk_below (g := gb251) (o := .cells #[.slice Ao24 t246.length co24, .int .i64 t249] 27 (0, 0)) (by (with_reducible repeat (first | refine blk_drewN ?_ _ | refine blk_drew ?_ | refine blk_alloc ?_ _)); exact BK251.out) hb); have n5_ := Aside0.mk (below_step (by repeat (first | (with_reducible first | exact HB.out | apply below_alloc | apply pw_below_drewN | apply below_drew1 | refine below_set ?_ GE245.out | refine below_set ?_ GE251.out) | exact HB.out)) hb); clear HO_25; clear HO_246000; clear HO_252000; clear BK245; clear BK251; clear HB; have HO_25 := n0_; have HO_246000 := n1_; have HO_252000 := n2_; have BK245 := n3_; have BK251 := n4_; have HB := n5_; clear n0_ n1_ n2_ n3_ n4_ n5_; (try clear hb); (try clear hb2); (try clear hk); (try clear hi); have hcz67_0 : w66.cell? ⟨gb251, 0, none⟩ = some (.slice Ao24 t246.length co24) := (blk_cell BK251.out 0).trans rfl; have hcz67_1 : w66.cell? ⟨gb251, 1, none⟩ = some (.int .i64 t249) := (blk_cell BK251.out 1).trans rfl; have hfz67_0 := blk_frozen BK251.out 0; have hfz67_1 := blk_frozen BK251.out 1; have hcz68_0 : w66.cell? ⟨gb245, 0, none⟩ = some (.slice Ao20 t240.length co20) := (blk_cell BK245.out 0).trans rfl; have hcz68_1 : w66.cell? ⟨gb245, 1, none⟩ = some (.int .i64 t243) := (blk_cell BK245.out 1).trans rfl; have hfz68_0 := blk_frozen BK245.out 0; have hfz68_1 := blk_frozen BK245.out 1) | (go_at_call 19; (with_reducible refine (order_Compare.calls kj44 _ _ t246 t249 _ _ t240 t243 t269 _ ?side1 ?side2 ?side3 ?side4 A62.out).mono ?_); (case side1 => repeat (first | exact (Kd.R_reads' HO_252000.out).2.2 | (with_reducible refine Kd.C_alloc ?_ _) | (with_reducible refine Kd.C_drewN ?_ _) | (with_reducible refine Kd.C_drew ?_))); (case side2 => exact (Kd.R_reads' HO_252000.out).2.1); (case side3 => repeat (first | exact (Kd.R_reads' HO_246000.out).2.2 | (with_reducible refine Kd.C_alloc ?_ _) | (with_reducible refine Kd.C_drewN ?_ _) | (with_reducible refine Kd.C_drew ?_))); (case side4 => exact (Kd.R_reads' HO_246000.out).2.1); rintro e w69 ⟨rfl, hb⟩; have n0_ := Aside0.mk (Kd.R_below (by (with_reducible repeat (first | apply Kd.R_alloc | apply Kd.R_drewN | apply Kd.R_drew)); exact HO_25.out) hb); have n1_ := Aside0.mk (Kd.R_below (by (with_reducible repeat (first | apply Kd.R_alloc | apply Kd.R_drewN | apply Kd.R_drew)); exact HO_246000.out) hb); have n2_ := Aside0.mk (Kd.R_below (by (with_reducible repeat (first | apply Kd.R_alloc | apply Kd.R_drewN | apply Kd.R_drew)); exact HO_252000.out) hb); have n3_ := Aside0.mk (blk_below (g := gb245) (o := .cells #[.slice Ao20 t240.length co20, .int .i64 t243] 27 (0, 0)) (by (with_reducible repeat (first | refine blk_drewN ?_ _ | refine blk_drew ?_ | refine blk_alloc ?_ _)); exact BK245.out) hb); have n4_ := Aside0.mk (blk_below (g := gb251) (o := .cells #[.slice Ao24 t246.length co24, .int .i64 t249] 27 (0, 0)) (by (with_reducible repeat (first | refine blk_drewN ?_ _ | refine blk_drew ?_ | refine blk_alloc ?_ _)); exact BK251.out) hb); have n5_ := Aside0.mk (below_step (by repeat (first | (with_reducible first | exact HB.out | apply below_alloc | apply pw_below_drewN | apply below_drew1 | refine below_set ?_ GE245.out | refine below_set ?_ GE251.out) | exact HB.out)) hb); clear HO_25; clear HO_246000; clear HO_252000; clear BK245; clear BK251; clear HB; have HO_25 := n0_; have HO_246000 := n1_; have HO_252000 := n2_; have BK245 := n3_; have BK251 := n4_; have HB := n5_; clear n0_ n1_ n2_ n3_ n4_ n5_; (try clear hb); (try clear hb2); (try clear hk); (try clear hi)))
                                    go_ret
                                    exact ⟨by first | rfl | (simp [errW_none, errW_some] <;> rfl) | (simp [*, errW_none, errW_some] <;> rfl), by repeat (first | (with_reducible first | exact HB.out | apply below_alloc | apply pw_below_drewN | apply below_drew1 | refine below_set ?_ GE245.out | refine below_set ?_ GE251.out) | exact HB.out)⟩
                                  · replace c61 := Bool.eq_false_iff.mpr c61
                                    subst c61
                                    have H1 : (some false) = some r := by rw [if_neg (show ¬ (false = true) by decide)] at H; exact H
                                    clear H
                                    have H := H1
                                    clear H1
                                    obtain rfl := Option.some.inj H
                                    have hnb70 := NB245_251.out
                                    have hnc70 := NB251_245.out
                                    have hcz71_0 : wc.cell? ⟨gb245, 0, none⟩ = some (.slice Ao20 t240.length co20) := (blk_cell BK245.out 0).trans rfl
                                    have hcz71_1 : wc.cell? ⟨gb245, 1, none⟩ = some (.int .i64 t243) := (blk_cell BK245.out 1).trans rfl
                                    have hfz71_0 := blk_frozen BK245.out 0
                                    have hfz71_1 := blk_frozen BK245.out 1
                                    have hcz72_0 : wc.cell? ⟨gb251, 0, none⟩ = some (.slice Ao24 t246.length co24) := (blk_cell BK251.out 0).trans rfl
                                    have hcz72_1 : wc.cell? ⟨gb251, 1, none⟩ = some (.int .i64 t249) := (blk_cell BK251.out 1).trans rfl
                                    have hfz72_0 := blk_frozen BK251.out 0
                                    have hfz72_1 := blk_frozen BK251.out 1
                                    go_wp2_with (first | (go_at_call 18; (with_reducible refine (path_Same.calls kj44 _ _ t240 t243 _ _ t246 t249 true _ ?side1 ?side2 ?side3 ?side4 A59.out).mono ?_); (case side1 => repeat (first | exact (Kd.R_reads' HO_246000.out).2.2 | (with_reducible refine Kd.C_alloc ?_ _) | (with_reducible refine Kd.C_drewN ?_ _) | (with_reducible refine Kd.C_drew ?_))); (case side2 => exact (Kd.R_reads' HO_246000.out).2.1); (case side3 => repeat (first | exact (Kd.R_reads' HO_252000.out).2.2 | (with_reducible refine Kd.C_alloc ?_ _) | (with_reducible refine Kd.C_drewN ?_ _) | (with_reducible refine Kd.C_drew ?_))); (case side4 => exact (Kd.R_reads' HO_252000.out).2.1); rintro e w73 ⟨rfl, hb⟩; have n0_ := Aside0.mk (Kd.R_below (by (with_reducible repeat (first | apply Kd.R_alloc | apply Kd.R_drewN | apply Kd.R_drew)); exact HO_25.out) hb); have n1_ := Aside0.mk (Kd.R_below (by (with_reducible repeat (first | apply Kd.R_alloc | apply Kd.R_drewN | apply Kd.R_drew)); exact HO_246000.out) hb); have n2_ := Aside0.mk (Kd.R_below (by (with_reducible repeat (first | apply Kd.R_alloc | apply Kd.R_drewN | apply Kd.R_drew)); exact HO_252000.out) hb); have n3_ := Aside0.mk (blk_below (g := gb245) (o := .cells #[.slice Ao20 t240.length co20, .int .i64 t243] 27 (0, 0)) (by (with_reducible repeat (first | refine blk_drewN ?_ _ | refine blk_drew ?_ | refine blk_alloc ?_ _)); exact BK245.out) hb); have n4_ := Aside0.mk (blk_below (g := gb251) (o := .cells #[.slice Ao24 t246.length co24, .int .i64 t249] 27 (0, 0)) (by (with_reducible repeat (first | refine blk_drewN ?_ _ | refine blk_drew ?_ | refine blk_alloc ?_ _)); exact BK251.out) hb); have n5_ := Aside0.mk (below_step (by repeat (first | (with_reducible first | exact HB.out | apply below_alloc | apply pw_below_drewN | apply below_drew1 | refine below_set ?_ GE245.out | refine below_set ?_ GE251.out) | exact HB.out)) hb); clear HO_25; clear HO_246000; clear HO_252000; clear BK245; clear BK251; clear HB; have HO_25 := n0_; have HO_246000 := n1_; have HO_252000 := n2_; have BK245 := n3_; have BK251 := n4_; have HB := n5_; clear n0_ n1_ n2_ n3_ n4_ n5_; (try clear hb); (try clear hb2); (try clear hk); (try clear hi)))
                                    go_ret
                                    exact ⟨by first | rfl | (simp [errW_none, errW_some] <;> rfl) | (simp [*, errW_none, errW_some] <;> rfl), by repeat (first | (with_reducible first | exact HB.out | apply below_alloc | apply pw_below_drewN | apply below_drew1 | refine below_set ?_ GE245.out | refine below_set ?_ GE251.out) | exact HB.out)⟩
                                · replace c60 := Bool.eq_false_iff.mpr c60
                                  subst c60
                                  have H1 : (some false) = some r := by rw [if_neg (show ¬ (false = true) by decide)] at H; exact H
                                  clear H
                                  have H := H1
                                  clear H1
                                  obtain rfl := Option.some.inj H
                                  have hnb74 := NB245_251.out
                                  have hnc74 := NB251_245.out
                                  have hcz75_0 : wc.cell? ⟨gb245, 0, none⟩ = some (.slice Ao20 t240.length co20) := (blk_cell BK245.out 0).trans rfl
                                  have hcz75_1 : wc.cell? ⟨gb245, 1, none⟩ = some (.int .i64 t243) := (blk_cell BK245.out 1).trans rfl
                                  have hfz75_0 := blk_frozen BK245.out 0
                                  have hfz75_1 := blk_frozen BK245.out 1
                                  have hcz76_0 : wc.cell? ⟨gb251, 0, none⟩ = some (.slice Ao24 t246.length co24) := (blk_cell BK251.out 0).trans rfl
                                  have hcz76_1 : wc.cell? ⟨gb251, 1, none⟩ = some (.int .i64 t249) := (blk_cell BK251.out 1).trans rfl
                                  have hfz76_0 := blk_frozen BK251.out 0
                                  have hfz76_1 := blk_frozen BK251.out 1
                                  go_wp2_with (first | (go_at_call 18; (with_reducible refine (path_Same.calls kj44 _ _ t240 t243 _ _ t246 t249 false _ ?side1 ?side2 ?side3 ?side4 A59.out).mono ?_); (case side1 => repeat (first | exact (Kd.R_reads' HO_246000.out).2.2 | (with_reducible refine Kd.C_alloc ?_ _) | (with_reducible refine Kd.C_drewN ?_ _) | (with_reducible refine Kd.C_drew ?_))); (case side2 => exact (Kd.R_reads' HO_246000.out).2.1); (case side3 => repeat (first | exact (Kd.R_reads' HO_252000.out).2.2 | (with_reducible refine Kd.C_alloc ?_ _) | (with_reducible refine Kd.C_drewN ?_ _) | (with_reducible refine Kd.C_drew ?_))); (case side4 => exact (Kd.R_reads' HO_252000.out).2.1); rintro e w77 ⟨rfl, hb⟩; have n0_ := Aside0.mk (Kd.R_below (by (with_reducible repeat (first | apply Kd.R_alloc | apply Kd.R_drewN | apply Kd.R_drew)); exact HO_25.out) hb); have n1_ := Aside0.mk (Kd.R_below (by (with_reducible repeat (first | apply Kd.R_alloc | apply Kd.R_drewN | apply Kd.R_drew)); exact HO_246000.out) hb); have n2_ := Aside0.mk (Kd.R_below (by (with_reducible repeat (first | apply Kd.R_alloc | apply Kd.R_drewN | apply Kd.R_drew)); exact HO_252000.out) hb); have n3_ := Aside0.mk (blk_below (g := gb245) (o := .cells #[.slice Ao20 t240.length co20, .int .i64 t243] 27 (0, 0)) (by (with_reducible repeat (first | refine blk_drewN ?_ _ | refine blk_drew ?_ | refine blk_alloc ?_ _)); exact BK245.out) hb); have n4_ := Aside0.mk (blk_below (g := gb251) (o := .cells #[.slice Ao24 t246.length co24, .int .i64 t249] 27 (0, 0)) (by (with_reducible repeat (first | refine blk_drewN ?_ _ | refine blk_drew ?_ | refine blk_alloc ?_ _)); exact BK251.out) hb); have n5_ := Aside0.mk (below_step (by repeat (first | (with_reducible first | exact HB.out | apply below_alloc | apply pw_below_drewN | apply below_drew1 | refine below_set ?_ GE245.out | refine below_set ?_ GE251.out) | exact HB.out)) hb); clear HO_25; clear HO_246000; clear HO_252000; clear BK245; clear BK251; clear HB; have HO_25 := n0_; have HO_246000 := n1_; have HO_252000 := n2_; have BK245 := n3_; have BK251 := n4_; have HB := n5_; clear n0_ n1_ n2_ n3_ n4_ n5_; (try clear hb); (try clear hb2); (try clear hk); (try clear hi)))
                                  go_ret
                                  exact ⟨by first | rfl | (simp [errW_none, errW_some] <;> rfl) | (simp [*, errW_none, errW_some] <;> rfl), by repeat (first | (with_reducible first | exact HB.out | apply below_alloc | apply pw_below_drewN | apply below_drew1 | refine below_set ?_ GE245.out | refine below_set ?_ GE251.out) | exact HB.out)⟩
                              · replace c58 := Bool.eq_false_iff.mpr c58
                                subst c58
                                have H1 : (some false) = some r := by rw [if_neg (show ¬ (false = true) by decide)] at H; exact H
                                clear H
                                have H := H1
                                clear H1
                                obtain rfl := Option.some.inj H
                                go_wp2
                                repeat (go_quiet (fail); try go_wp2)
                                go_ret
                                exact ⟨by first | rfl | (simp [errW_none, errW_some] <;> rfl) | (simp [*, errW_none, errW_some] <;> rfl), by repeat (first | (with_reducible first | exact HB.out | apply below_alloc | apply pw_below_drewN | apply below_drew1 | refine below_set ?_ GE245.out | refine below_set ?_ GE251.out) | exact HB.out)⟩
                            · replace c57 := Bool.eq_false_iff.mpr c57
                              subst c57
                              have H1 : (if t244 = true then (if t265 = true then ((order_Compare.f kj44 t246 t249 t240 t243).bind fun t270 => (some (decide (t270 ≤ 0)))) else (some false)) else (some true)) = some r := by rw [if_neg (show ¬ (false = true) by decide)] at H; exact H
                              clear H
                              have H := H1
                              clear H1
                              by_cases c78 : t244 = true
                              · subst c78
                                have H1 : (if t265 = true then ((order_Compare.f kj44 t246 t249 t240 t243).bind fun t270 => (some (decide (t270 ≤ 0)))) else (some false)) = some r := by rw [if_pos rfl] at H; exact H
                                clear H
                                have H := H1
                                clear H1
                                by_cases c79 : t265 = true
                                · subst c79
                                  have H1 : ((order_Compare.f kj44 t246 t249 t240 t243).bind fun t270 => (some (decide (t270 ≤ 0)))) = some r := by rw [if_pos rfl] at H; exact H
                                  clear H
                                  have H := H1
                                  clear H1
                                  replace H := Option.bind_eq_some_iff.mp H
                                  obtain ⟨t270, A800, H⟩ := H
                                  replace H : (some (decide (t270 ≤ 0))) = some r := H
                                  have A80 := Aside0.mk A800
                                  clear A800
                                  obtain rfl := Option.some.inj H
                                  have hnb81 := NB251_245.out
                                  have hnc81 := NB245_251.out
                                  have hcz82_0 : wc.cell? ⟨gb251, 0, none⟩ = some (.slice Ao24 t246.length co24) := (blk_cell BK251.out 0).trans rfl
                                  have hcz82_1 : wc.cell? ⟨gb251, 1, none⟩ = some (.int .i64 t249) := (blk_cell BK251.out 1).trans rfl
                                  have hfz82_0 := blk_frozen BK251.out 0
                                  have hfz82_1 := blk_frozen BK251.out 1
                                  have hcz83_0 : wc.cell? ⟨gb245, 0, none⟩ = some (.slice Ao20 t240.length co20) := (blk_cell BK245.out 0).trans rfl
                                  have hcz83_1 : wc.cell? ⟨gb245, 1, none⟩ = some (.int .i64 t243) := (blk_cell BK245.out 1).trans rfl
                                  have hfz83_0 := blk_frozen BK245.out 0
                                  have hfz83_1 := blk_frozen BK245.out 1
                                  go_wp2_with (first | (go_at_call 19; (with_reducible refine (order_Compare.calls kj44 _ _ t246 t249 _ _ t240 t243 t270 _ ?side1 ?side2 ?side3 ?side4 A80.out).mono ?_); (case side1 => repeat (first | exact (Kd.R_reads' HO_252000.out).2.2 | (with_reducible refine Kd.C_alloc ?_ _) | (with_reducible refine Kd.C_drewN ?_ _) | (with_reducible refine Kd.C_drew ?_))); (case side2 => exact (Kd.R_reads' HO_252000.out).2.1); (case side3 => repeat (first | exact (Kd.R_reads' HO_246000.out).2.2 | (with_reducible refine Kd.C_alloc ?_ _) | (with_reducible refine Kd.C_drewN ?_ _) | (with_reducible refine Kd.C_drew ?_))); (case side4 => exact (Kd.R_reads' HO_246000.out).2.1); rintro e w84 ⟨rfl, hb⟩; have n0_ := Aside0.mk (Kd.R_below (by (with_reducible repeat (first | apply Kd.R_alloc | apply Kd.R_drewN | apply Kd.R_drew)); exact HO_25.out) hb); have n1_ := Aside0.mk (Kd.R_below (by (with_reducible repeat (first | apply Kd.R_alloc | apply Kd.R_drewN | apply Kd.R_drew)); exact HO_246000.out) hb); have n2_ := Aside0.mk (Kd.R_below (by (with_reducible repeat (first | apply Kd.R_alloc | apply Kd.R_drewN | apply Kd.R_drew)); exact HO_252000.out) hb); have n3_ := Aside0.mk (blk_below (g := gb245) (o := .cells #[.slice Ao20 t240.length co20, .int .i64 t243] 27 (0, 0)) (by (with_reducible repeat (first | refine blk_drewN ?_ _ | refine blk_drew ?_ | refine blk_alloc ?_ _)); exact BK245.out) hb); have n4_ := Aside0.mk (blk_below (g := gb251) (o := .cells #[.slice Ao24 t246.length co24, .int .i64 t249] 27 (0, 0)) (by (with_reducible repeat (first | refine blk_drewN ?_ _ | refine blk_drew ?_ | refine blk_alloc ?_ _)); exact BK251.out) hb); have n5_ := Aside0.mk (below_step (by repeat (first | (with_reducible first | exact HB.out | apply below_alloc | apply pw_below_drewN | apply below_drew1 | refine below_set ?_ GE245.out | refine below_set ?_ GE251.out) | exact HB.out)) hb); clear HO_25; clear HO_246000; clear HO_252000; clear BK245; clear BK251; clear HB; have HO_25 := n0_; have HO_246000 := n1_; have HO_252000 := n2_; have BK245 := n3_; have BK251 := n4_; have HB := n5_; clear n0_ n1_ n2_ n3_ n4_ n5_; (try clear hb); (try clear hb2); (try clear hk); (try clear hi)))
                                  go_ret
                                  exact ⟨by first | rfl | (simp [errW_none, errW_some] <;> rfl) | (simp [*, errW_none, errW_some] <;> rfl), by repeat (first | (with_reducible first | exact HB.out | apply below_alloc | apply pw_below_drewN | apply below_drew1 | refine below_set ?_ GE245.out | refine below_set ?_ GE251.out) | exact HB.out)⟩
                                · replace c79 := Bool.eq_false_iff.mpr c79
                                  subst c79
                                  have H1 : (some false) = some r := by rw [if_neg (show ¬ (false = true) by decide)] at H; exact H
                                  clear H
                                  have H := H1
                                  clear H1
                                  obtain rfl := Option.some.inj H
                                  go_wp2
                                  repeat (go_quiet (fail); try go_wp2)
                                  go_ret
                                  exact ⟨by first | rfl | (simp [errW_none, errW_some] <;> rfl) | (simp [*, errW_none, errW_some] <;> rfl), by repeat (first | (with_reducible first | exact HB.out | apply below_alloc | apply pw_below_drewN | apply below_drew1 | refine below_set ?_ GE245.out | refine below_set ?_ GE251.out) | exact HB.out)⟩
                              · replace c78 := Bool.eq_false_iff.mpr c78
                                subst c78
                                have H1 : (some true) = some r := by rw [if_neg (show ¬ (false = true) by decide)] at H; exact H
                                clear H
                                have H := H1
                                clear H1
                                obtain rfl := Option.some.inj H
                                go_wp2
                                repeat (go_quiet (fail); try go_wp2)
                                go_ret
                                exact ⟨by first | rfl | (simp [errW_none, errW_some] <;> rfl) | (simp [*, errW_none, errW_some] <;> rfl), by repeat (first | (with_reducible first | exact HB.out | apply below_alloc | apply pw_below_drewN | apply below_drew1 | refine below_set ?_ GE245.out | refine below_set ?_ GE251.out) | exact HB.out)⟩
                          · replace c56 := Bool.eq_false_iff.mpr c56
                            subst c56
                            have H1 : (some false) = some r := by rw [if_neg (show ¬ (false = true) by decide)] at H; exact H
                            clear H
                            have H := H1
                            clear H1
                            obtain rfl := Option.some.inj H
                            go_wp2
                            repeat (go_quiet (fail); try go_wp2)
                            go_ret
                            exact ⟨by first | rfl | (simp [errW_none, errW_some] <;> rfl) | (simp [*, errW_none, errW_some] <;> rfl), by repeat (first | (with_reducible first | exact HB.out | apply below_alloc | apply pw_below_drewN | apply below_drew1 | refine below_set ?_ GE245.out | refine below_set ?_ GE251.out) | exact HB.out)⟩
        · replace c17 := Bool.eq_false_iff.mpr c17
          subst c17
          have H1 : (if t239 = true then (if t244 = true then (some false) else (some ((t240.length : Int) == 0))) else (some false)) = some r := by rw [if_neg (show ¬ (false = true) by decide)] at H; exact H
          clear H
          have H := H1
          clear H1
          by_cases c85 : t239 = true
          · subst c85
            have H1 : (if t244 = true then (some false) else (some ((t240.length : Int) == 0))) = some r := by rw [if_pos rfl] at H; exact H
            clear H
            have H := H1
            clear H1
            by_cases c86 : t244 = true
            · subst c86
              have H1 : (some false) = some r := by rw [if_pos rfl] at H; exact H
              clear H
              have H := H1
              clear H1
              obtain rfl := Option.some.inj H
              go_wp2_with (first | (go_at_call 15; (with_reducible refine (least_Route.calls _ _ l0 a1 a2 a3 a4 a5 _ _ l6 t240 t243 true _ ?side1 ?side2 ?side3 ?side4 A13.out).mono ?_); (case side1 => repeat (first | exact (Kd.C_below HR0.out HB.out) | (with_reducible refine Kd.C_alloc ?_ _) | (with_reducible refine Kd.C_drewN ?_ _) | (with_reducible refine Kd.C_drew ?_))); (case side2 => exact HC0.out); (case side3 => repeat (first | exact (Kd.C_below HR6.out HB.out) | (with_reducible refine Kd.C_alloc ?_ _) | (with_reducible refine Kd.C_drewN ?_ _) | (with_reducible refine Kd.C_drew ?_))); (case side4 => exact HC6.out); rintro e w87 ⟨v241, rfl, ho0, hb⟩; have n0_ := Aside0.mk (Kd.R_lower ho0 (below_size (by repeat (first | (with_reducible first | exact HB.out | apply below_alloc | apply pw_below_drewN | apply below_drew1) | exact HB.out)))); have n1_ := Aside0.mk (below_step (by repeat (first | (with_reducible first | exact HB.out | apply below_alloc | apply pw_below_drewN | apply below_drew1) | exact HB.out)) hb); clear HB; have HO242 := n0_; have HB := n1_; clear n0_ n1_; (try clear hb); (try clear hb2); (try clear hk); (try clear hi); (try clear ho0)) | ((with_reducible refine gate_dst (N := 16) rfl ?_); (try (refine gate_guard (by rfl) ?_; dsimp only)); refine box_event ?hg (N := 16) ?hd (cs := #[.slice none 0 0, .int .i64 0]) (t := 27) ?hr ?_; (case hd => rfl); (case hg => rfl); (case hr => first | (go_simp; done) | (go_simp; rfl)); intro gb245 hg w88 hbox hb; have n0_ := Aside0.mk (Kd.R_below (by (with_reducible repeat (first | apply Kd.R_alloc | apply Kd.R_drewN | apply Kd.R_drew)); exact HO242.out) hb); have n1_ := Aside0.mk (below_step (by repeat (first | (with_reducible first | exact HB.out | apply below_alloc | apply pw_below_drewN | apply below_drew1) | exact HB.out)) hb); have n2_ := Aside0.mk (hbox); have n3_ := Aside0.mk ((by rw [hg]; exact (below_size (by repeat (first | (with_reducible first | exact HB.out | apply below_alloc | apply pw_below_drewN | apply below_drew1) | exact HB.out))) : w.heap.size ≤ gb245)); have n4_ := Aside0.mk ((by rw [hg]; exact (below_size (by repeat (first | (with_reducible first | exact HB.out | apply below_alloc | apply pw_below_drewN | apply below_drew1) | exact HB.out))) : w.heap.size ≤ gb245)); clear HO242; clear HB; have HO242 := n0_; have HB := n1_; have BK245 := n2_; have GW245 := n3_; have GE245 := n4_; clear n0_ n1_ n2_ n3_ n4_; clear hb hbox hg; obtain ⟨Ao89, co89, eo89⟩ := Kd.R_slice HO242.out; subst eo89; have hcz90_0 : w88.cell? ⟨gb245, 0, none⟩ = some (.slice none 0 0) := (blk_cell BK245.out 0).trans rfl; have hcz90_1 : w88.cell? ⟨gb245, 1, none⟩ = some (.int .i64 0) := (blk_cell BK245.out 1).trans rfl; have hfz90_0 := blk_frozen BK245.out 0; have hfz90_1 := blk_frozen BK245.out 1) | (go_at_call 15; (refine (least_Route.calls _ _ l0 a1 a2 a3 a4 a5 _ _ ([] : List Int) t246 t249 false _ ?side1 ?side2 ?side3 ?side4 A14.out).mono ?_); (case side1 => exact Kd.C_below HR0.out (by repeat (first | (with_reducible first | exact HB.out | apply below_alloc | apply pw_below_drewN | apply below_drew1 | refine below_set ?_ GE245.out) | exact HB.out))); (case side2 => exact HC0.out); (case side3 => exact Kd.C_nil _ _); (case side4 => exact Nat.le_refl _); rintro e w91 ⟨v247, rfl, ho0, hb⟩; have n0_ := Aside0.mk (Kd.R_elder' (by (with_reducible repeat (first | apply Kd.R_alloc | apply Kd.R_drewN | apply Kd.R_drew)); exact (Kd.R_mono (Kd.R_far (p := ⟨gb245, 1, none⟩) (Kd.R_far (p := ⟨gb245, 0, none⟩) (Kd.R_types HO242.out BK245.out (by decide)) (fun _ hk => hk.2) (.slice Ao89 t240.length co89)) (fun _ hk => hk.2) (.int .i64 t243)) (fun _ h_ => h_.1))) (Kd.R_base ho0) hb); have n1_ := Aside0.mk (Kd.R_lower (Kd.R_new' ho0 (Kd.R_lt (by (with_reducible repeat (first | apply Kd.R_alloc | apply Kd.R_drewN | apply Kd.R_drew)); exact (Kd.R_mono (Kd.R_far (p := ⟨gb245, 1, none⟩) (Kd.R_far (p := ⟨gb245, 0, none⟩) (Kd.R_types HO242.out BK245.out (by decide)) (fun _ hk => hk.2) (.slice Ao89 t240.length co89)) (fun _ hk => hk.2) (.int .i64 t243)) (fun _ h_ => h_.1))))) (below_size (by repeat (first | (with_reducible first | exact HB.out | apply below_alloc | apply pw_below_drewN | apply below_drew1 | refine below_set ?_ GE245.out) | exact HB.out)))); have n2_ := Aside0.mk (blk_below (g := gb245) (o := .cells #[.slice Ao89 t240.length co89, .int .i64 t243] 27 (0, 0)) (by (with_reducible repeat (first | refine blk_drewN ?_ _ | refine blk_drew ?_ | refine blk_alloc ?_ _)); refine blk_put (cs := #[.slice Ao89 t240.length co89, .int .i64 0]) ?_ 1 _ rfl; (with_reducible repeat (first | refine blk_drewN ?_ _ | refine blk_drew ?_ | refine blk_alloc ?_ _)); refine blk_put (cs := #[.slice none 0 0, .int .i64 0]) ?_ 0 _ rfl; (with_reducible repeat (first | refine blk_drewN ?_ _ | refine blk_drew ?_ | refine blk_alloc ?_ _)); exact BK245.out) hb); have n3_ := Aside0.mk (below_step (by repeat (first | (with_reducible first | exact HB.out | apply below_alloc | apply pw_below_drewN | apply below_drew1 | refine below_set ?_ GE245.out) | exact HB.out)) hb); clear HO242; clear BK245; clear HB; have HO242 := n0_; have HO248 := n1_; have BK245 := n2_; have HB := n3_; clear n0_ n1_ n2_ n3_; (try clear hb); (try clear hb2); (try clear hk); (try clear hi); (try clear ho0)) | ((with_reducible refine gate_dst (N := 18) rfl ?_); (try (refine gate_guard (by rfl) ?_; dsimp only)); refine box_event ?hg (N := 18) ?hd (cs := #[.slice none 0 0, .int .i64 0]) (t := 27) ?hr ?_; (case hd => rfl); (case hg => rfl); (case hr => first | (go_simp; done) | (go_simp; rfl)); intro gb251 hg w92 hbox hb; have n0_ := Aside0.mk (Kd.R_below (by (with_reducible repeat (first | apply Kd.R_alloc | apply Kd.R_drewN | apply Kd.R_drew)); exact HO242.out) hb); have n1_ := Aside0.mk (Kd.R_below (by (with_reducible repeat (first | apply Kd.R_alloc | apply Kd.R_drewN | apply Kd.R_drew)); exact HO248.out) hb); have n2_ := Aside0.mk (blk_below (g := gb245) (o := .cells #[.slice Ao89 t240.length co89, .int .i64 t243] 27 (0, 0)) (by (with_reducible repeat (first | refine blk_drewN ?_ _ | refine blk_drew ?_ | refine blk_alloc ?_ _)); exact BK245.out) hb); have n3_ := Aside0.mk (below_step (by repeat (first | (with_reducible first | exact HB.out | apply below_alloc | apply pw_below_drewN | apply below_drew1 | refine below_set ?_ GE245.out) | exact HB.out)) hb); have n4_ := Aside0.mk (hbox); have n5_ := Aside0.mk ((by rw [hg]; exact (below_size (by repeat (first | (with_reducible first | exact HB.out | apply below_alloc | apply pw_below_drewN | apply below_drew1 | refine below_set ?_ GE245.out) | exact HB.out))) : w.heap.size ≤ gb251)); have n6_ := Aside0.mk ((by rw [hg]; exact (below_size (by repeat (first | (with_reducible first | exact HB.out | apply below_alloc | apply pw_below_drewN | apply below_drew1 | refine below_set ?_ GE245.out) | exact HB.out))) : w.heap.size ≤ gb251)); have n7_ := Aside0.mk ((by rw [hg]; exact Nat.ne_of_lt (blk_lt (g := gb245) (o := .cells #[.slice Ao89 t240.length co89, .int .i64 t243] 27 (0, 0)) (by (with_reducible repeat (first | refine blk_drewN ?_ _ | refine blk_drew ?_ | refine blk_alloc ?_ _)); exact BK245.out)) : gb245 ≠ gb251)); have n8_ := Aside0.mk ((by rw [hg]; exact Nat.ne_of_gt (blk_lt (g := gb245) (o := .cells #[.slice Ao89 t240.length co89, .int .i64 t243] 27 (0, 0)) (by (with_reducible repeat (first | refine blk_drewN ?_ _ | refine blk_drew ?_ | refine blk_alloc ?_ _)); exact BK245.out)) : gb251 ≠ gb245)); clear HO242; clear HO248; clear BK245; clear HB; have HO242 := n0_; have HO248 := n1_; have BK245 := n2_; have HB := n3_; have BK251 := n4_; have GW251 := n5_; have GE251 := n6_; have NB245_251 := n7_; have NB251_245 := n8_; clear n0_ n1_ n2_ n3_ n4_ n5_ n6_ n7_ n8_; clear hb hbox hg; obtain ⟨Ao93, co93, eo93⟩ := Kd.R_slice HO248.out; subst eo93; have hnb94 := NB251_245.out; have hnc94 := NB245_251.out; have hcz95_0 : w92.cell? ⟨gb251, 0, none⟩ = some (.slice none 0 0) := (blk_cell BK251.out 0).trans rfl; have hcz95_1 : w92.cell? ⟨gb251, 1, none⟩ = some (.int .i64 0) := (blk_cell BK251.out 1).trans rfl; have hfz95_0 := blk_frozen BK251.out 0; have hfz95_1 := blk_frozen BK251.out 1) | (go_at_call 17; (with_reducible refine (path_IDs.calls kj8 _ _ t246 t249 t252 _ ?side1 ?side2 A15.out).mono ?_); (case side1 => refine (Kd.R_reads' (e := 56) (base := w.heap.size) (ok := fun k_ => (True ∧ some k_ ≠ (.slice Ao89 t240.length co89 : Value).ownBlock)) (n := t246.length) (c := co93) ?_).2.2; exact (by (with_reducible repeat (first | apply Kd.R_alloc | apply Kd.R_drewN | apply Kd.R_drew)); exact (Kd.R_mono (Kd.R_far (p := ⟨gb251, 1, none⟩) (Kd.R_far (p := ⟨gb251, 0, none⟩) (Kd.R_types HO248.out BK251.out (by decide)) (fun _ hk => hk.2) (.slice Ao93 t246.length co93)) (fun _ hk => hk.2) (.int .i64 t249)) (fun _ h_ => h_.1)))); (case side2 => exact (Kd.R_reads' HO248.out).2.1); rintro e w96 ⟨v253, rfl, ho0, hb⟩; have n0_ := Aside0.mk (Kd.R_below (by (with_reducible repeat (first | apply Kd.R_alloc | apply Kd.R_drewN | apply Kd.R_drew)); exact (Kd.R_mono (Kd.R_far (p := ⟨gb251, 1, none⟩) (Kd.R_far (p := ⟨gb251, 0, none⟩) (Kd.R_types HO242.out BK251.out (by decide)) (fun _ hk => hk.2) (.slice Ao93 t246.length co93)) (fun _ hk => hk.2) (.int .i64 t249)) (fun _ h_ => h_.1))) hb); have n1_ := Aside0.mk (Kd.R_below (by (with_reducible repeat (first | apply Kd.R_alloc | apply Kd.R_drewN | apply Kd.R_drew)); exact (Kd.R_mono (Kd.R_far (p := ⟨gb251, 1, none⟩) (Kd.R_far (p := ⟨gb251, 0, none⟩) (Kd.R_types HO248.out BK251.out (by decide)) (fun _ hk => hk.2) (.slice Ao93 t246.length co93)) (fun _ hk => hk.2) (.int .i64 t249)) (fun _ h_ => h_.1))) hb); have n2_ := Aside0.mk (Kd.R_lower ho0 (below_size (by repeat (first | (with_reducible first | exact HB.out | apply below_alloc | apply pw_below_drewN | apply below_drew1 | refine below_set ?_ GE245.out | refine below_set ?_ GE251.out) | exact HB.out)))); have n3_ := Aside0.mk (blk_below (g := gb245) (o := .cells #[.slice Ao89 t240.length co89, .int .i64 t243] 27 (0, 0)) (by (with_reducible repeat (first | refine blk_drewN ?_ _ | refine blk_drew ?_ | refine blk_alloc ?_ _)); refine blk_far ?_ NB245_251.out _; (with_reducible repeat (first | refine blk_drewN ?_ _ | refine blk_drew ?_ | refine blk_alloc ?_ _)); refine blk_far ?_ NB245_251.out _; (with_reducible repeat (first | refine blk_drewN ?_ _ | refine blk_drew ?_ | refine blk_alloc ?_ _)); exact BK245.out) hb); have n4_ := Aside0.mk (blk_below (g := gb251) (o := .cells #[.slice Ao93 t246.length co93, .int .i64 t249] 27 (0, 0)) (by (with_reducible repeat (first | refine blk_drewN ?_ _ | refine blk_drew ?_ | refine blk_alloc ?_ _)); refine blk_put (cs := #[.slice Ao93 t246.length co93, .int .i64 0]) ?_ 1 _ rfl; (with_reducible repeat (first | refine blk_drewN ?_ _ | refine blk_drew ?_ | refine blk_alloc ?_ _)); refine blk_put (cs := #[.slice none 0 0, .int .i64 0]) ?_ 0 _ rfl; (with_reducible repeat (first | refine blk_drewN ?_ _ | refine blk_drew ?_ | refine blk_alloc ?_ _)); exact BK251.out) hb); have n5_ := Aside0.mk (below_step (by repeat (first | (with_reducible first | exact HB.out | apply below_alloc | apply pw_below_drewN | apply below_drew1 | refine below_set ?_ GE245.out | refine below_set ?_ GE251.out) | exact HB.out)) hb); clear HO242; clear HO248; clear BK245; clear BK251; clear HB; have HO242 := n0_; have HO248 := n1_; have HO254 := n2_; have BK245 := n3_; have BK251 := n4_; have HB := n5_; clear n0_ n1_ n2_ n3_ n4_ n5_; (try clear hb); (try clear hb2); (try clear hk); (try clear hi); (try clear ho0); obtain ⟨Ao97, co97, eo97⟩ := Kd.R_slice HO254.out; subst eo97) | (go_at_call 16; (with_reducible refine (path_Ends.calls kj8 _ _ l0 _ _ t252 a1 t255 t256 _ ?side1 ?side2 ?side3 ?side4 A16.out).mono ?_); (case side1 => repeat (first | exact (Kd.C_below HR0.out HB.out) | (with_reducible refine Kd.C_alloc ?_ _) | (with_reducible refine Kd.C_drewN ?_ _) | (with_reducible refine Kd.C_drew ?_))); (case side2 => exact HC0.out); (case side3 => repeat (first | exact (Kd.R_reads' HO254.out).2.2 | (with_reducible refine Kd.C_alloc ?_ _) | (with_reducible refine Kd.C_drewN ?_ _) | (with_reducible refine Kd.C_drew ?_))); (case side4 => exact (Kd.R_reads' HO254.out).2.1); rintro e w98 ⟨v257, rfl, ho0, hb⟩; have n0_ := Aside0.mk (Kd.R_below (by (with_reducible repeat (first | apply Kd.R_alloc | apply Kd.R_drewN | apply Kd.R_drew)); exact HO242.out) hb); have n1_ := Aside0.mk (Kd.R_below (by (with_reducible repeat (first | apply Kd.R_alloc | apply Kd.R_drewN | apply Kd.R_drew)); exact HO248.out) hb); have n2_ := Aside0.mk (Kd.R_elder' (by (with_reducible repeat (first | apply Kd.R_alloc | apply Kd.R_drewN | apply Kd.R_drew)); exact HO254.out) (Kd.R_base ho0) hb); have n3_ := Aside0.mk (Kd.R_lower (Kd.R_new' ho0 (Kd.R_lt (by (with_reducible repeat (first | apply Kd.R_alloc | apply Kd.R_drewN | apply Kd.R_drew)); exact HO254.out))) (below_size (by repeat (first | (with_reducible first | exact HB.out | apply below_alloc | apply pw_below_drewN | apply below_drew1 | refine below_set ?_ GE245.out | refine below_set ?_ GE251.out) | exact HB.out)))); have n4_ := Aside0.mk (blk_below (g := gb245) (o := .cells #[.slice Ao89 t240.length co89, .int .i64 t243] 27 (0, 0)) (by (with_reducible repeat (first | refine blk_drewN ?_ _ | refine blk_drew ?_ | refine blk_alloc ?_ _)); exact BK245.out) hb); have n5_ := Aside0.mk (blk_below (g := gb251) (o := .cells #[.slice Ao93 t246.length co93, .int .i64 t249] 27 (0, 0)) (by (with_reducible repeat (first | refine blk_drewN ?_ _ | refine blk_drew ?_ | refine blk_alloc ?_ _)); exact BK251.out) hb); have n6_ := Aside0.mk (below_step (by repeat (first | (with_reducible first | exact HB.out | apply below_alloc | apply pw_below_drewN | apply below_drew1 | refine below_set ?_ GE245.out | refine below_set ?_ GE251.out) | exact HB.out)) hb); clear HO242; clear HO248; clear HO254; clear BK245; clear BK251; clear HB; have HO242 := n0_; have HO248 := n1_; have HO254 := n2_; have HO258 := n3_; have BK245 := n4_; have BK251 := n5_; have HB := n6_; clear n0_ n1_ n2_ n3_ n4_ n5_ n6_; (try clear hb); (try clear hb2); (try clear hk); (try clear hi); (try clear ho0)))
              go_ret
              exact ⟨by first | rfl | (simp [errW_none, errW_some] <;> rfl) | (simp [*, errW_none, errW_some] <;> rfl), by repeat (first | (with_reducible first | exact HB.out | apply below_alloc | apply pw_below_drewN | apply below_drew1 | refine below_set ?_ GE245.out | refine below_set ?_ GE251.out) | exact HB.out)⟩
            · replace c86 := Bool.eq_false_iff.mpr c86
              subst c86
              have H1 : (some ((t240.length : Int) == 0)) = some r := by rw [if_neg (show ¬ (false = true) by decide)] at H; exact H
              clear H
              have H := H1
              clear H1
              obtain rfl := Option.some.inj H
              go_wp2_with (first | (go_at_call 15; (with_reducible refine (least_Route.calls _ _ l0 a1 a2 a3 a4 a5 _ _ l6 t240 t243 false _ ?side1 ?side2 ?side3 ?side4 A13.out).mono ?_); (case side1 => repeat (first | exact (Kd.C_below HR0.out HB.out) | (with_reducible refine Kd.C_alloc ?_ _) | (with_reducible refine Kd.C_drewN ?_ _) | (with_reducible refine Kd.C_drew ?_))); (case side2 => exact HC0.out); (case side3 => repeat (first | exact (Kd.C_below HR6.out HB.out) | (with_reducible refine Kd.C_alloc ?_ _) | (with_reducible refine Kd.C_drewN ?_ _) | (with_reducible refine Kd.C_drew ?_))); (case side4 => exact HC6.out); rintro e w99 ⟨v241, rfl, ho0, hb⟩; have n0_ := Aside0.mk (Kd.R_lower ho0 (below_size (by repeat (first | (with_reducible first | exact HB.out | apply below_alloc | apply pw_below_drewN | apply below_drew1) | exact HB.out)))); have n1_ := Aside0.mk (below_step (by repeat (first | (with_reducible first | exact HB.out | apply below_alloc | apply pw_below_drewN | apply below_drew1) | exact HB.out)) hb); clear HB; have HO242 := n0_; have HB := n1_; clear n0_ n1_; (try clear hb); (try clear hb2); (try clear hk); (try clear hi); (try clear ho0)) | ((with_reducible refine gate_dst (N := 16) rfl ?_); (try (refine gate_guard (by rfl) ?_; dsimp only)); refine box_event ?hg (N := 16) ?hd (cs := #[.slice none 0 0, .int .i64 0]) (t := 27) ?hr ?_; (case hd => rfl); (case hg => rfl); (case hr => first | (go_simp; done) | (go_simp; rfl)); intro gb245 hg w100 hbox hb; have n0_ := Aside0.mk (Kd.R_below (by (with_reducible repeat (first | apply Kd.R_alloc | apply Kd.R_drewN | apply Kd.R_drew)); exact HO242.out) hb); have n1_ := Aside0.mk (below_step (by repeat (first | (with_reducible first | exact HB.out | apply below_alloc | apply pw_below_drewN | apply below_drew1) | exact HB.out)) hb); have n2_ := Aside0.mk (hbox); have n3_ := Aside0.mk ((by rw [hg]; exact (below_size (by repeat (first | (with_reducible first | exact HB.out | apply below_alloc | apply pw_below_drewN | apply below_drew1) | exact HB.out))) : w.heap.size ≤ gb245)); have n4_ := Aside0.mk ((by rw [hg]; exact (below_size (by repeat (first | (with_reducible first | exact HB.out | apply below_alloc | apply pw_below_drewN | apply below_drew1) | exact HB.out))) : w.heap.size ≤ gb245)); clear HO242; clear HB; have HO242 := n0_; have HB := n1_; have BK245 := n2_; have GW245 := n3_; have GE245 := n4_; clear n0_ n1_ n2_ n3_ n4_; clear hb hbox hg; obtain ⟨Ao101, co101, eo101⟩ := Kd.R_slice HO242.out; subst eo101; have hcz102_0 : w100.cell? ⟨gb245, 0, none⟩ = some (.slice none 0 0) := (blk_cell BK245.out 0).trans rfl; have hcz102_1 : w100.cell? ⟨gb245, 1, none⟩ = some (.int .i64 0) := (blk_cell BK245.out 1).trans rfl; have hfz102_0 := blk_frozen BK245.out 0; have hfz102_1 := blk_frozen BK245.out 1) | (go_at_call 15; (refine (least_Route.calls _ _ l0 a1 a2 a3 a4 a5 _ _ ([] : List Int) t246 t249 false _ ?side1 ?side2 ?side3 ?side4 A14.out).mono ?_); (case side1 => exact Kd.C_below HR0.out (by repeat (first | (with_reducible first | exact HB.out | apply below_alloc | apply pw_below_drewN | apply below_drew1 | refine below_set ?_ GE245.out) | exact HB.out))); (case side2 => exact HC0.out); (case side3 => exact Kd.C_nil _ _); (case side4 => exact Nat.le_refl _); rintro e w103 ⟨v247, rfl, ho0, hb⟩; have n0_ := Aside0.mk (Kd.R_elder' (by (with_reducible repeat (first | apply Kd.R_alloc | apply Kd.R_drewN | apply Kd.R_drew)); exact (Kd.R_mono (Kd.R_far (p := ⟨gb245, 1, none⟩) (Kd.R_far (p := ⟨gb245, 0, none⟩) (Kd.R_types HO242.out BK245.out (by decide)) (fun _ hk => hk.2) (.slice Ao101 t240.length co101)) (fun _ hk => hk.2) (.int .i64 t243)) (fun _ h_ => h_.1))) (Kd.R_base ho0) hb); have n1_ := Aside0.mk (Kd.R_lower (Kd.R_new' ho0 (Kd.R_lt (by (with_reducible repeat (first | apply Kd.R_alloc | apply Kd.R_drewN | apply Kd.R_drew)); exact (Kd.R_mono (Kd.R_far (p := ⟨gb245, 1, none⟩) (Kd.R_far (p := ⟨gb245, 0, none⟩) (Kd.R_types HO242.out BK245.out (by decide)) (fun _ hk => hk.2) (.slice Ao101 t240.length co101)) (fun _ hk => hk.2) (.int .i64 t243)) (fun _ h_ => h_.1))))) (below_size (by repeat (first | (with_reducible first | exact HB.out | apply below_alloc | apply pw_below_drewN | apply below_drew1 | refine below_set ?_ GE245.out) | exact HB.out)))); have n2_ := Aside0.mk (blk_below (g := gb245) (o := .cells #[.slice Ao101 t240.length co101, .int .i64 t243] 27 (0, 0)) (by (with_reducible repeat (first | refine blk_drewN ?_ _ | refine blk_drew ?_ | refine blk_alloc ?_ _)); refine blk_put (cs := #[.slice Ao101 t240.length co101, .int .i64 0]) ?_ 1 _ rfl; (with_reducible repeat (first | refine blk_drewN ?_ _ | refine blk_drew ?_ | refine blk_alloc ?_ _)); refine blk_put (cs := #[.slice none 0 0, .int .i64 0]) ?_ 0 _ rfl; (with_reducible repeat (first | refine blk_drewN ?_ _ | refine blk_drew ?_ | refine blk_alloc ?_ _)); exact BK245.out) hb); have n3_ := Aside0.mk (below_step (by repeat (first | (with_reducible first | exact HB.out | apply below_alloc | apply pw_below_drewN | apply below_drew1 | refine below_set ?_ GE245.out) | exact HB.out)) hb); clear HO242; clear BK245; clear HB; have HO242 := n0_; have HO248 := n1_; have BK245 := n2_; have HB := n3_; clear n0_ n1_ n2_ n3_; (try clear hb); (try clear hb2); (try clear hk); (try clear hi); (try clear ho0)) | ((with_reducible refine gate_dst (N := 18) rfl ?_); (try (refine gate_guard (by rfl) ?_; dsimp only)); refine box_event ?hg (N := 18) ?hd (cs := #[.slice none 0 0, .int .i64 0]) (t := 27) ?hr ?_; (case hd => rfl); (case hg => rfl); (case hr => first | (go_simp; done) | (go_simp; rfl)); intro gb251 hg w104 hbox hb; have n0_ := Aside0.mk (Kd.R_below (by (with_reducible repeat (first | apply Kd.R_alloc | apply Kd.R_drewN | apply Kd.R_drew)); exact HO242.out) hb); have n1_ := Aside0.mk (Kd.R_below (by (with_reducible repeat (first | apply Kd.R_alloc | apply Kd.R_drewN | apply Kd.R_drew)); exact HO248.out) hb); have n2_ := Aside0.mk (blk_below (g := gb245) (o := .cells #[.slice Ao101 t240.length co101, .int .i64 t243] 27 (0, 0)) (by (with_reducible repeat (first | refine blk_drewN ?_ _ | refine blk_drew ?_ | refine blk_alloc ?_ _)); exact BK245.out) hb); have n3_ := Aside0.mk (below_step (by repeat (first | (with_reducible first | exact HB.out | apply below_alloc | apply pw_below_drewN | apply below_drew1 | refine below_set ?_ GE245.out) | exact HB.out)) hb); have n4_ := Aside0.mk (hbox); have n5_ := Aside0.mk ((by rw [hg]; exact (below_size (by repeat (first | (with_reducible first | exact HB.out | apply below_alloc | apply pw_below_drewN | apply below_drew1 | refine below_set ?_ GE245.out) | exact HB.out))) : w.heap.size ≤ gb251)); have n6_ := Aside0.mk ((by rw [hg]; exact (below_size (by repeat (first | (with_reducible first | exact HB.out | apply below_alloc | apply pw_below_drewN | apply below_drew1 | refine below_set ?_ GE245.out) | exact HB.out))) : w.heap.size ≤ gb251)); have n7_ := Aside0.mk ((by rw [hg]; exact Nat.ne_of_lt (blk_lt (g := gb245) (o := .cells #[.slice Ao101 t240.length co101, .int .i64 t243] 27 (0, 0)) (by (with_reducible repeat (first | refine blk_drewN ?_ _ | refine blk_drew ?_ | refine blk_alloc ?_ _)); exact BK245.out)) : gb245 ≠ gb251)); have n8_ := Aside0.mk ((by rw [hg]; exact Nat.ne_of_gt (blk_lt (g := gb245) (o := .cells #[.slice Ao101 t240.length co101, .int .i64 t243] 27 (0, 0)) (by (with_reducible repeat (first | refine blk_drewN ?_ _ | refine blk_drew ?_ | refine blk_alloc ?_ _)); exact BK245.out)) : gb251 ≠ gb245)); clear HO242; clear HO248; clear BK245; clear HB; have HO242 := n0_; have HO248 := n1_; have BK245 := n2_; have HB := n3_; have BK251 := n4_; have GW251 := n5_; have GE251 := n6_; have NB245_251 := n7_; have NB251_245 := n8_; clear n0_ n1_ n2_ n3_ n4_ n5_ n6_ n7_ n8_; clear hb hbox hg; obtain ⟨Ao105, co105, eo105⟩ := Kd.R_slice HO248.out; subst eo105; have hnb106 := NB251_245.out; have hnc106 := NB245_251.out; have hcz107_0 : w104.cell? ⟨gb251, 0, none⟩ = some (.slice none 0 0) := (blk_cell BK251.out 0).trans rfl; have hcz107_1 : w104.cell? ⟨gb251, 1, none⟩ = some (.int .i64 0) := (blk_cell BK251.out 1).trans rfl; have hfz107_0 := blk_frozen BK251.out 0; have hfz107_1 := blk_frozen BK251.out 1) | (go_at_call 17; (with_reducible refine (path_IDs.calls kj8 _ _ t246 t249 t252 _ ?side1 ?side2 A15.out).mono ?_); (case side1 => refine (Kd.R_reads' (e := 56) (base := w.heap.size) (ok := fun k_ => (True ∧ some k_ ≠ (.slice Ao101 t240.length co101 : Value).ownBlock)) (n := t246.length) (c := co105) ?_).2.2; exact (by (with_reducible repeat (first | apply Kd.R_alloc | apply Kd.R_drewN | apply Kd.R_drew)); exact (Kd.R_mono (Kd.R_far (p := ⟨gb251, 1, none⟩) (Kd.R_far (p := ⟨gb251, 0, none⟩) (Kd.R_types HO248.out BK251.out (by decide)) (fun _ hk => hk.2) (.slice Ao105 t246.length co105)) (fun _ hk => hk.2) (.int .i64 t249)) (fun _ h_ => h_.1)))); (case side2 => exact (Kd.R_reads' HO248.out).2.1); rintro e w108 ⟨v253, rfl, ho0, hb⟩; have n0_ := Aside0.mk (Kd.R_below (by (with_reducible repeat (first | apply Kd.R_alloc | apply Kd.R_drewN | apply Kd.R_drew)); exact (Kd.R_mono (Kd.R_far (p := ⟨gb251, 1, none⟩) (Kd.R_far (p := ⟨gb251, 0, none⟩) (Kd.R_types HO242.out BK251.out (by decide)) (fun _ hk => hk.2) (.slice Ao105 t246.length co105)) (fun _ hk => hk.2) (.int .i64 t249)) (fun _ h_ => h_.1))) hb); have n1_ := Aside0.mk (Kd.R_below (by (with_reducible repeat (first | apply Kd.R_alloc | apply Kd.R_drewN | apply Kd.R_drew)); exact (Kd.R_mono (Kd.R_far (p := ⟨gb251, 1, none⟩) (Kd.R_far (p := ⟨gb251, 0, none⟩) (Kd.R_types HO248.out BK251.out (by decide)) (fun _ hk => hk.2) (.slice Ao105 t246.length co105)) (fun _ hk => hk.2) (.int .i64 t249)) (fun _ h_ => h_.1))) hb); have n2_ := Aside0.mk (Kd.R_lower ho0 (below_size (by repeat (first | (with_reducible first | exact HB.out | apply below_alloc | apply pw_below_drewN | apply below_drew1 | refine below_set ?_ GE245.out | refine below_set ?_ GE251.out) | exact HB.out)))); have n3_ := Aside0.mk (blk_below (g := gb245) (o := .cells #[.slice Ao101 t240.length co101, .int .i64 t243] 27 (0, 0)) (by (with_reducible repeat (first | refine blk_drewN ?_ _ | refine blk_drew ?_ | refine blk_alloc ?_ _)); refine blk_far ?_ NB245_251.out _; (with_reducible repeat (first | refine blk_drewN ?_ _ | refine blk_drew ?_ | refine blk_alloc ?_ _)); refine blk_far ?_ NB245_251.out _; (with_reducible repeat (first | refine blk_drewN ?_ _ | refine blk_drew ?_ | refine blk_alloc ?_ _)); exact BK245.out) hb); have n4_ := Aside0.mk (blk_below (g := gb251) (o := .cells #[.slice Ao105 t246.length co105, .int .i64 t249] 27 (0, 0)) (by (with_reducible repeat (first | refine blk_drewN ?_ _ | refine blk_drew ?_ | refine blk_alloc ?_ _)); refine blk_put (cs := #[.slice Ao105 t246.length co105, .int .i64 0]) ?_ 1 _ rfl; (with_reducible repeat (first | refine blk_drewN ?_ _ | refine blk_drew ?_ | refine blk_alloc ?_ _)); refine blk_put (cs := #[.slice none 0 0, .int .i64 0]) ?_ 0 _ rfl; (with_reducible repeat (first | refine blk_drewN ?_ _ | refine blk_drew ?_ | refine blk_alloc ?_ _)); exact BK251.out) hb); have n5_ := Aside0.mk (below_step (by repeat (first | (with_reducible first | exact HB.out | apply below_alloc | apply pw_below_drewN | apply below_drew1 | refine below_set ?_ GE245.out | refine below_set ?_ GE251.out) | exact HB.out)) hb); clear HO242; clear HO248; clear BK245; clear BK251; clear HB; have HO242 := n0_; have HO248 := n1_; have HO254 := n2_; have BK245 := n3_; have BK251 := n4_; have HB := n5_; clear n0_ n1_ n2_ n3_ n4_ n5_; (try clear hb); (try clear hb2); (try clear hk); (try clear hi); (try clear ho0); obtain ⟨Ao109, co109, eo109⟩ := Kd.R_slice HO254.out; subst eo109) | (go_at_call 16; (with_reducible refine (path_Ends.calls kj8 _ _ l0 _ _ t252 a1 t255 t256 _ ?side1 ?side2 ?side3 ?side4 A16.out).mono ?_); (case side1 => repeat (first | exact (Kd.C_below HR0.out HB.out) | (with_reducible refine Kd.C_alloc ?_ _) | (with_reducible refine Kd.C_drewN ?_ _) | (with_reducible refine Kd.C_drew ?_))); (case side2 => exact HC0.out); (case side3 => repeat (first | exact (Kd.R_reads' HO254.out).2.2 | (with_reducible refine Kd.C_alloc ?_ _) | (with_reducible refine Kd.C_drewN ?_ _) | (with_reducible refine Kd.C_drew ?_))); (case side4 => exact (Kd.R_reads' HO254.out).2.1); rintro e w110 ⟨v257, rfl, ho0, hb⟩; have n0_ := Aside0.mk (Kd.R_below (by (with_reducible repeat (first | apply Kd.R_alloc | apply Kd.R_drewN | apply Kd.R_drew)); exact HO242.out) hb); have n1_ := Aside0.mk (Kd.R_below (by (with_reducible repeat (first | apply Kd.R_alloc | apply Kd.R_drewN | apply Kd.R_drew)); exact HO248.out) hb); have n2_ := Aside0.mk (Kd.R_elder' (by (with_reducible repeat (first | apply Kd.R_alloc | apply Kd.R_drewN | apply Kd.R_drew)); exact HO254.out) (Kd.R_base ho0) hb); have n3_ := Aside0.mk (Kd.R_lower (Kd.R_new' ho0 (Kd.R_lt (by (with_reducible repeat (first | apply Kd.R_alloc | apply Kd.R_drewN | apply Kd.R_drew)); exact HO254.out))) (below_size (by repeat (first | (with_reducible first | exact HB.out | apply below_alloc | apply pw_below_drewN | apply below_drew1 | refine below_set ?_ GE245.out | refine below_set ?_ GE251.out) | exact HB.out)))); have n4_ := Aside0.mk (blk_below (g := gb245) (o := .cells #[.slice Ao101 t240.length co101, .int .i64 t243] 27 (0, 0)) (by (with_reducible repeat (first | refine blk_drewN ?_ _ | refine blk_drew ?_ | refine blk_alloc ?_ _)); exact BK245.out) hb); have n5_ := Aside0.mk (blk_below (g := gb251) (o := .cells #[.slice Ao105 t246.length co105, .int .i64 t249] 27 (0, 0)) (by (with_reducible repeat (first | refine blk_drewN ?_ _ | refine blk_drew ?_ | refine blk_alloc ?_ _)); exact BK251.out) hb); have n6_ := Aside0.mk (below_step (by repeat (first | (with_reducible first | exact HB.out | apply below_alloc | apply pw_below_drewN | apply below_drew1 | refine below_set ?_ GE245.out | refine below_set ?_ GE251.out) | exact HB.out)) hb); clear HO242; clear HO248; clear HO254; clear BK245; clear BK251; clear HB; have HO242 := n0_; have HO248 := n1_; have HO254 := n2_; have HO258 := n3_; have BK245 := n4_; have BK251 := n5_; have HB := n6_; clear n0_ n1_ n2_ n3_ n4_ n5_ n6_; (try clear hb); (try clear hb2); (try clear hk); (try clear hi); (try clear ho0); have hcz111_0 : w110.cell? ⟨gb245, 0, none⟩ = some (.slice Ao101 t240.length co101) := (blk_cell BK245.out 0).trans rfl; have hcz111_1 : w110.cell? ⟨gb245, 1, none⟩ = some (.int .i64 t243) := (blk_cell BK245.out 1).trans rfl; have hfz111_0 := blk_frozen BK245.out 0; have hfz111_1 := blk_frozen BK245.out 1))
              go_ret
              exact ⟨by first | rfl | (simp [errW_none, errW_some] <;> rfl) | (simp [*, errW_none, errW_some] <;> rfl), by repeat (first | (with_reducible first | exact HB.out | apply below_alloc | apply pw_below_drewN | apply below_drew1 | refine below_set ?_ GE245.out | refine below_set ?_ GE251.out) | exact HB.out)⟩
          · replace c85 := Bool.eq_false_iff.mpr c85
            subst c85
            have H1 : (some false) = some r := by rw [if_neg (show ¬ (false = true) by decide)] at H; exact H
            clear H
            have H := H1
            clear H1
            obtain rfl := Option.some.inj H
            go_wp2_with (first | (go_at_call 15; (with_reducible refine (least_Route.calls _ _ l0 a1 a2 a3 a4 a5 _ _ l6 t240 t243 t244 _ ?side1 ?side2 ?side3 ?side4 A13.out).mono ?_); (case side1 => repeat (first | exact (Kd.C_below HR0.out HB.out) | (with_reducible refine Kd.C_alloc ?_ _) | (with_reducible refine Kd.C_drewN ?_ _) | (with_reducible refine Kd.C_drew ?_))); (case side2 => exact HC0.out); (case side3 => repeat (first | exact (Kd.C_below HR6.out HB.out) | (with_reducible refine Kd.C_alloc ?_ _) | (with_reducible refine Kd.C_drewN ?_ _) | (with_reducible refine Kd.C_drew ?_))); (case side4 => exact HC6.out); rintro e w112 ⟨v241, rfl, ho0, hb⟩; have n0_ := Aside0.mk (Kd.R_lower ho0 (below_size (by repeat (first | (with_reducible first | exact HB.out | apply below_alloc | apply pw_below_drewN | apply below_drew1) | exact HB.out)))); have n1_ := Aside0.mk (below_step (by repeat (first | (with_reducible first | exact HB.out | apply below_alloc | apply pw_below_drewN | apply below_drew1) | exact HB.out)) hb); clear HB; have HO242 := n0_; have HB := n1_; clear n0_ n1_; (try clear hb); (try clear hb2); (try clear hk); (try clear hi); (try clear ho0)) | ((with_reducible refine gate_dst (N := 16) rfl ?_); (try (refine gate_guard (by rfl) ?_; dsimp only)); refine box_event ?hg (N := 16) ?hd (cs := #[.slice none 0 0, .int .i64 0]) (t := 27) ?hr ?_; (case hd => rfl); (case hg => rfl); (case hr => first | (go_simp; done) | (go_simp; rfl)); intro gb245 hg w113 hbox hb; have n0_ := Aside0.mk (Kd.R_below (by (with_reducible repeat (first | apply Kd.R_alloc | apply Kd.R_drewN | apply Kd.R_drew)); exact HO242.out) hb); have n1_ := Aside0.mk (below_step (by repeat (first | (with_reducible first | exact HB.out | apply below_alloc | apply pw_below_drewN | apply below_drew1) | exact HB.out)) hb); have n2_ := Aside0.mk (hbox); have n3_ := Aside0.mk ((by rw [hg]; exact (below_size (by repeat (first | (with_reducible first | exact HB.out | apply below_alloc | apply pw_below_drewN | apply below_drew1) | exact HB.out))) : w.heap.size ≤ gb245)); have n4_ := Aside0.mk ((by rw [hg]; exact (below_size (by repeat (first | (with_reducible first | exact HB.out | apply below_alloc | apply pw_below_drewN | apply below_drew1) | exact HB.out))) : w.heap.size ≤ gb245)); clear HO242; clear HB; have HO242 := n0_; have HB := n1_; have BK245 := n2_; have GW245 := n3_; have GE245 := n4_; clear n0_ n1_ n2_ n3_ n4_; clear hb hbox hg; obtain ⟨Ao114, co114, eo114⟩ := Kd.R_slice HO242.out; subst eo114; have hcz115_0 : w113.cell? ⟨gb245, 0, none⟩ = some (.slice none 0 0) := (blk_cell BK245.out 0).trans rfl; have hcz115_1 : w113.cell? ⟨gb245, 1, none⟩ = some (.int .i64 0) := (blk_cell BK245.out 1).trans rfl; have hfz115_0 := blk_frozen BK245.out 0; have hfz115_1 := blk_frozen BK245.out 1) | (go_at_call 15; (refine (least_Route.calls _ _ l0 a1 a2 a3 a4 a5 _ _ ([] : List Int) t246 t249 false _ ?side1 ?side2 ?side3 ?side4 A14.out).mono ?_); (case side1 => exact Kd.C_below HR0.out (by repeat (first | (with_reducible first | exact HB.out | apply below_alloc | apply pw_below_drewN | apply below_drew1 | refine below_set ?_ GE245.out) | exact HB.out))); (case side2 => exact HC0.out); (case side3 => exact Kd.C_nil _ _); (case side4 => exact Nat.le_refl _); rintro e w116 ⟨v247, rfl, ho0, hb⟩; have n0_ := Aside0.mk (Kd.R_elder' (by (with_reducible repeat (first | apply Kd.R_alloc | apply Kd.R_drewN | apply Kd.R_drew)); exact (Kd.R_mono (Kd.R_far (p := ⟨gb245, 1, none⟩) (Kd.R_far (p := ⟨gb245, 0, none⟩) (Kd.R_types HO242.out BK245.out (by decide)) (fun _ hk => hk.2) (.slice Ao114 t240.length co114)) (fun _ hk => hk.2) (.int .i64 t243)) (fun _ h_ => h_.1))) (Kd.R_base ho0) hb); have n1_ := Aside0.mk (Kd.R_lower (Kd.R_new' ho0 (Kd.R_lt (by (with_reducible repeat (first | apply Kd.R_alloc | apply Kd.R_drewN | apply Kd.R_drew)); exact (Kd.R_mono (Kd.R_far (p := ⟨gb245, 1, none⟩) (Kd.R_far (p := ⟨gb245, 0, none⟩) (Kd.R_types HO242.out BK245.out (by decide)) (fun _ hk => hk.2) (.slice Ao114 t240.length co114)) (fun _ hk => hk.2) (.int .i64 t243)) (fun _ h_ => h_.1))))) (below_size (by repeat (first | (with_reducible first | exact HB.out | apply below_alloc | apply pw_below_drewN | apply below_drew1 | refine below_set ?_ GE245.out) | exact HB.out)))); have n2_ := Aside0.mk (blk_below (g := gb245) (o := .cells #[.slice Ao114 t240.length co114, .int .i64 t243] 27 (0, 0)) (by (with_reducible repeat (first | refine blk_drewN ?_ _ | refine blk_drew ?_ | refine blk_alloc ?_ _)); refine blk_put (cs := #[.slice Ao114 t240.length co114, .int .i64 0]) ?_ 1 _ rfl; (with_reducible repeat (first | refine blk_drewN ?_ _ | refine blk_drew ?_ | refine blk_alloc ?_ _)); refine blk_put (cs := #[.slice none 0 0, .int .i64 0]) ?_ 0 _ rfl; (with_reducible repeat (first | refine blk_drewN ?_ _ | refine blk_drew ?_ | refine blk_alloc ?_ _)); exact BK245.out) hb); have n3_ := Aside0.mk (below_step (by repeat (first | (with_reducible first | exact HB.out | apply below_alloc | apply pw_below_drewN | apply below_drew1 | refine below_set ?_ GE245.out) | exact HB.out)) hb); clear HO242; clear BK245; clear HB; have HO242 := n0_; have HO248 := n1_; have BK245 := n2_; have HB := n3_; clear n0_ n1_ n2_ n3_; (try clear hb); (try clear hb2); (try clear hk); (try clear hi); (try clear ho0)) | ((with_reducible refine gate_dst (N := 18) rfl ?_); (try (refine gate_guard (by rfl) ?_; dsimp only)); refine box_event ?hg (N := 18) ?hd (cs := #[.slice none 0 0, .int .i64 0]) (t := 27) ?hr ?_; (case hd => rfl); (case hg => rfl); (case hr => first | (go_simp; done) | (go_simp; rfl)); intro gb251 hg w117 hbox hb; have n0_ := Aside0.mk (Kd.R_below (by (with_reducible repeat (first | apply Kd.R_alloc | apply Kd.R_drewN | apply Kd.R_drew)); exact HO242.out) hb); have n1_ := Aside0.mk (Kd.R_below (by (with_reducible repeat (first | apply Kd.R_alloc | apply Kd.R_drewN | apply Kd.R_drew)); exact HO248.out) hb); have n2_ := Aside0.mk (blk_below (g := gb245) (o := .cells #[.slice Ao114 t240.length co114, .int .i64 t243] 27 (0, 0)) (by (with_reducible repeat (first | refine blk_drewN ?_ _ | refine blk_drew ?_ | refine blk_alloc ?_ _)); exact BK245.out) hb); have n3_ := Aside0.mk (below_step (by repeat (first | (with_reducible first | exact HB.out | apply below_alloc | apply pw_below_drewN | apply below_drew1 | refine below_set ?_ GE245.out) | exact HB.out)) hb); have n4_ := Aside0.mk (hbox); have n5_ := Aside0.mk ((by rw [hg]; exact (below_size (by repeat (first | (with_reducible first | exact HB.out | apply below_alloc | apply pw_below_drewN | apply below_drew1 | refine below_set ?_ GE245.out) | exact HB.out))) : w.heap.size ≤ gb251)); have n6_ := Aside0.mk ((by rw [hg]; exact (below_size (by repeat (first | (with_reducible first | exact HB.out | apply below_alloc | apply pw_below_drewN | apply below_drew1 | refine below_set ?_ GE245.out) | exact HB.out))) : w.heap.size ≤ gb251)); have n7_ := Aside0.mk ((by rw [hg]; exact Nat.ne_of_lt (blk_lt (g := gb245) (o := .cells #[.slice Ao114 t240.length co114, .int .i64 t243] 27 (0, 0)) (by (with_reducible repeat (first | refine blk_drewN ?_ _ | refine blk_drew ?_ | refine blk_alloc ?_ _)); exact BK245.out)) : gb245 ≠ gb251)); have n8_ := Aside0.mk ((by rw [hg]; exact Nat.ne_of_gt (blk_lt (g := gb245) (o := .cells #[.slice Ao114 t240.length co114, .int .i64 t243] 27 (0, 0)) (by (with_reducible repeat (first | refine blk_drewN ?_ _ | refine blk_drew ?_ | refine blk_alloc ?_ _)); exact BK245.out)) : gb251 ≠ gb245)); clear HO242; clear HO248; clear BK245; clear HB; have HO242 := n0_; have HO248 := n1_; have BK245 := n2_; have HB := n3_; have BK251 := n4_; have GW251 := n5_; have GE251 := n6_; have NB245_251 := n7_; have NB251_245 := n8_; clear n0_ n1_ n2_ n3_ n4_ n5_ n6_ n7_ n8_; clear hb hbox hg; obtain ⟨Ao118, co118, eo118⟩ := Kd.R_slice HO248.out; subst eo118; have hnb119 := NB251_245.out; have hnc119 := NB245_251.out; have hcz120_0 : w117.cell? ⟨gb251, 0, none⟩ = some (.slice none 0 0) := (blk_cell BK251.out 0).trans rfl; have hcz120_1 : w117.cell? ⟨gb251, 1, none⟩ = some (.int .i64 0) := (blk_cell BK251.out 1).trans rfl; have hfz120_0 := blk_frozen BK251.out 0; have hfz120_1 := blk_frozen BK251.out 1) | (go_at_call 17; (with_reducible refine (path_IDs.calls kj8 _ _ t246 t249 t252 _ ?side1 ?side2 A15.out).mono ?_); (case side1 => refine (Kd.R_reads' (e := 56) (base := w.heap.size) (ok := fun k_ => (True ∧ some k_ ≠ (.slice Ao114 t240.length co114 : Value).ownBlock)) (n := t246.length) (c := co118) ?_).2.2; exact (by (with_reducible repeat (first | apply Kd.R_alloc | apply Kd.R_drewN | apply Kd.R_drew)); exact (Kd.R_mono (Kd.R_far (p := ⟨gb251, 1, none⟩) (Kd.R_far (p := ⟨gb251, 0, none⟩) (Kd.R_types HO248.out BK251.out (by decide)) (fun _ hk => hk.2) (.slice Ao118 t246.length co118)) (fun _ hk => hk.2) (.int .i64 t249)) (fun _ h_ => h_.1)))); (case side2 => exact (Kd.R_reads' HO248.out).2.1); rintro e w121 ⟨v253, rfl, ho0, hb⟩; have n0_ := Aside0.mk (Kd.R_below (by (with_reducible repeat (first | apply Kd.R_alloc | apply Kd.R_drewN | apply Kd.R_drew)); exact (Kd.R_mono (Kd.R_far (p := ⟨gb251, 1, none⟩) (Kd.R_far (p := ⟨gb251, 0, none⟩) (Kd.R_types HO242.out BK251.out (by decide)) (fun _ hk => hk.2) (.slice Ao118 t246.length co118)) (fun _ hk => hk.2) (.int .i64 t249)) (fun _ h_ => h_.1))) hb); have n1_ := Aside0.mk (Kd.R_below (by (with_reducible repeat (first | apply Kd.R_alloc | apply Kd.R_drewN | apply Kd.R_drew)); exact (Kd.R_mono (Kd.R_far (p := ⟨gb251, 1, none⟩) (Kd.R_far (p := ⟨gb251, 0, none⟩) (Kd.R_types HO248.out BK251.out (by decide)) (fun _ hk => hk.2) (.slice Ao118 t246.length co118)) (fun _ hk => hk.2) (.int .i64 t249)) (fun _ h_ => h_.1))) hb); have n2_ := Aside0.mk (Kd.R_lower ho0 (below_size (by repeat (first | (with_reducible first | exact HB.out | apply below_alloc | apply pw_below_drewN | apply below_drew1 | refine below_set ?_ GE245.out | refine below_set ?_ GE251.out) | exact HB.out)))); have n3_ := Aside0.mk (blk_below (g := gb245) (o := .cells #[.slice Ao114 t240.length co114, .int .i64 t243] 27 (0, 0)) (by (with_reducible repeat (first | refine blk_drewN ?_ _ | refine blk_drew ?_ | refine blk_alloc ?_ _)); refine blk_far ?_ NB245_251.out _; (with_reducible repeat (first | refine blk_drewN ?_ _ | refine blk_drew ?_ | refine blk_alloc ?_ _)); refine blk_far ?_ NB245_251.out _; (with_reducible repeat (first | refine blk_drewN ?_ _ | refine blk_drew ?_ | refine blk_alloc ?_ _)); exact BK245.out) hb); have n4_ := Aside0.mk (blk_below (g := gb251) (o := .cells #[.slice Ao118 t246.length co118, .int .i64 t249] 27 (0, 0)) (by (with_reducible repeat (first | refine blk_drewN ?_ _ | refine blk_drew ?_ | refine blk_alloc ?_ _)); refine blk_put (cs := #[.slice Ao118 t246.length co118, .int .i64 0]) ?_ 1 _ rfl; (with_reducible repeat (first | refine blk_drewN ?_ _ | refine blk_drew ?_ | refine blk_alloc ?_ _)); refine blk_put (cs := #[.slice none 0 0, .int .i64 0]) ?_ 0 _ rfl; (with_reducible repeat (first | refine blk_drewN ?_ _ | refine blk_drew ?_ | refine blk_alloc ?_ _)); exact BK251.out) hb); have n5_ := Aside0.mk (below_step (by repeat (first | (with_reducible first | exact HB.out | apply below_alloc | apply pw_below_drewN | apply below_drew1 | refine below_set ?_ GE245.out | refine below_set ?_ GE251.out) | exact HB.out)) hb); clear HO242; clear HO248; clear BK245; clear BK251; clear HB; have HO242 := n0_; have HO248 := n1_; have HO254 := n2_; have BK245 := n3_; have BK251 := n4_; have HB := n5_; clear n0_ n1_ n2_ n3_ n4_ n5_; (try clear hb); (try clear hb2); (try clear hk); (try clear hi); (try clear ho0); obtain ⟨Ao122, co122, eo122⟩ := Kd.R_slice HO254.out; subst eo122) | (go_at_call 16; (with_reducible refine (path_Ends.calls kj8 _ _ l0 _ _ t252 a1 t255 t256 _ ?side1 ?side2 ?side3 ?side4 A16.out).mono ?_); (case side1 => repeat (first | exact (Kd.C_below HR0.out HB.out) | (with_reducible refine Kd.C_alloc ?_ _) | (with_reducible refine Kd.C_drewN ?_ _) | (with_reducible refine Kd.C_drew ?_))); (case side2 => exact HC0.out); (case side3 => repeat (first | exact (Kd.R_reads' HO254.out).2.2 | (with_reducible refine Kd.C_alloc ?_ _) | (with_reducible refine Kd.C_drewN ?_ _) | (with_reducible refine Kd.C_drew ?_))); (case side4 => exact (Kd.R_reads' HO254.out).2.1); rintro e w123 ⟨v257, rfl, ho0, hb⟩; have n0_ := Aside0.mk (Kd.R_below (by (with_reducible repeat (first | apply Kd.R_alloc | apply Kd.R_drewN | apply Kd.R_drew)); exact HO242.out) hb); have n1_ := Aside0.mk (Kd.R_below (by (with_reducible repeat (first | apply Kd.R_alloc | apply Kd.R_drewN | apply Kd.R_drew)); exact HO248.out) hb); have n2_ := Aside0.mk (Kd.R_elder' (by (with_reducible repeat (first | apply Kd.R_alloc | apply Kd.R_drewN | apply Kd.R_drew)); exact HO254.out) (Kd.R_base ho0) hb); have n3_ := Aside0.mk (Kd.R_lower (Kd.R_new' ho0 (Kd.R_lt (by (with_reducible repeat (first | apply Kd.R_alloc | apply Kd.R_drewN | apply Kd.R_drew)); exact HO254.out))) (below_size (by repeat (first | (with_reducible first | exact HB.out | apply below_alloc | apply pw_below_drewN | apply below_drew1 | refine below_set ?_ GE245.out | refine below_set ?_ GE251.out) | exact HB.out)))); have n4_ := Aside0.mk (blk_below (g := gb245) (o := .cells #[.slice Ao114 t240.length co114, .int .i64 t243] 27 (0, 0)) (by (with_reducible repeat (first | refine blk_drewN ?_ _ | refine blk_drew ?_ | refine blk_alloc ?_ _)); exact BK245.out) hb); have n5_ := Aside0.mk (blk_below (g := gb251) (o := .cells #[.slice Ao118 t246.length co118, .int .i64 t249] 27 (0, 0)) (by (with_reducible repeat (first | refine blk_drewN ?_ _ | refine blk_drew ?_ | refine blk_alloc ?_ _)); exact BK251.out) hb); have n6_ := Aside0.mk (below_step (by repeat (first | (with_reducible first | exact HB.out | apply below_alloc | apply pw_below_drewN | apply below_drew1 | refine below_set ?_ GE245.out | refine below_set ?_ GE251.out) | exact HB.out)) hb); clear HO242; clear HO248; clear HO254; clear BK245; clear BK251; clear HB; have HO242 := n0_; have HO248 := n1_; have HO254 := n2_; have HO258 := n3_; have BK245 := n4_; have BK251 := n5_; have HB := n6_; clear n0_ n1_ n2_ n3_ n4_ n5_ n6_; (try clear hb); (try clear hb2); (try clear hk); (try clear hi); (try clear ho0)))
            go_ret
            exact ⟨by first | rfl | (simp [errW_none, errW_some] <;> rfl) | (simp [*, errW_none, errW_some] <;> rfl), by repeat (first | (with_reducible first | exact HB.out | apply below_alloc | apply pw_below_drewN | apply below_drew1 | refine below_set ?_ GE245.out | refine below_set ?_ GE251.out) | exact HB.out)⟩
end Go.Proofs.Ytijflnpgiegajaa.Q
end
section
namespace Go.Proofs.Ytijflnpgiegajaa.Q
open Go.RowKit Go.Proofs.YtijflnpgiegajaaW.PrintWords Go.Proofs.YtijflnpgiegajaaW.PrintLast Go.Proofs.YtijflnpgiegajaaW.PrintMore Go.Proofs.Ytijflnpgiegajaa.IM
set_option linter.unusedVariables false
set_option linter.unusedSimpArgs false
theorem lexLe_anti : ∀ (x y : List Int), lexLe x y → lexLe y x → x = y
  | [], [], _, _ => rfl
  | [], _ :: _, _, h => by simp [lexLe] at h
  | _ :: _, [], h, _ => by simp [lexLe] at h
  | a :: r, b :: s, h1, h2 => by
    simp only [lexLe] at h1 h2
    rcases h1 with h1 | ⟨rfl, h1⟩
    · rcases h2 with h2 | ⟨h2, _⟩ <;> omega
    · rcases h2 with h2 | ⟨_, h2⟩
      · omega
      · rw [lexLe_anti r s h1 h2]
theorem keyLe_anti {size now : Int} {es es' : List S65} (h1 : keyLe size now es es') (h2 : keyLe size now es' es) : es.map (·.f0) = es'.map (·.f0) := by
  rcases h1 with h1 | ⟨h1, h1' | ⟨h1', h1''⟩⟩
  · rcases h2 with h2 | ⟨h2, _⟩ <;> omega
  · rcases h2 with h2 | ⟨h2, h2' | ⟨h2', _⟩⟩ <;> omega
  · rcases h2 with h2 | ⟨h2, h2' | ⟨h2', h2''⟩⟩
    · omega
    · omega
    · exact lexLe_anti _ _ h1'' h2''
theorem route_open {l : List S65} {frm dst now size by_ : Int} {sh sh' : List Int} {es : List S65} (h : RouteE l size sh frm now dst by_ es) (hs : ∀ x ∈ es.map (·.f2), x ∉ sh') : RouteE l size sh' frm now dst by_ es :=
  ⟨h.asked, h.node, way_sub es _ _ _ (fun e he hl _ => ⟨hl, hs _ (List.mem_map.2 ⟨e, he, rfl⟩)⟩) h.way, h.nodup, h.time⟩
theorem route_shut {l : List S65} {frm dst now size by_ : Int} {sh : List Int} {es : List S65} (h : RouteE l size sh frm now dst by_ es) : ∀ x ∈ es.map (·.f2), x ∉ sh := fun x hx => by
  obtain ⟨e, he, rfl⟩ := List.mem_map.1 hx
  exact (way_all es _ _ _ h.way e he).2.1
def avoidB (sh n : List Int) : Bool := n.all (fun x => decide (x ∉ sh))
theorem avoidB_iff (sh n : List Int) : avoidB sh n = true ↔ ∀ x ∈ n, x ∉ sh := by
  unfold avoidB
  rw [List.all_eq_true]
  simp only [decide_eq_true_eq]
section
variable (l : List S65) (frm : Int) (sh : List Int) (hs : sh.length ≤ 1000000) (ok : Bool) (h1 : List S56) (t1 : Int) (h2 : List S56) (t2 : Int)
include hs
theorem shuts_l1 (nodes : List Int) (hn : nodes.length ≤ 1000000) (i : Nat) (hi : i < nodes.length) (K : Nat) : ∀ (d j : Nat) (free : Bool), j + d = sh.length →
    feluccalaw17_LeastShuts.l1 (K + d + 1) l frm sh true ok nodes free (i : Int) (j : Int) h1 t1 h2 t2 = feluccalaw17_LeastShuts.l0 K l frm sh true ok nodes (free && decide (nodes[i] ∉ sh.drop j)) ((i + 1 : Nat) : Int) h1 t1 h2 t2
  | 0, j, free, hj => by
    rw [feluccalaw17_LeastShuts.l1, if_neg (by omega), List.drop_eq_nil_of_le (by omega), wrap_succ i hi hn]
    simp
  | d + 1, j, free, hj => by
    have hjl : j < sh.length := by omega
    rw [show K + (d + 1) + 1 = (K + d + 1) + 1 from by omega, feluccalaw17_LeastShuts.l1, if_pos (by omega)]
    cases free with
    | false =>
      rw [if_neg (by simp), wrap_succ j hjl hs, shuts_l1 nodes hn i hi K d (j + 1) _ (by omega)]
      simp
    | true =>
      rw [if_pos rfl, if_pos (by omega), if_pos (by omega), if_pos (by omega), rdI nodes i hi, rdI sh j hjl, wrap_succ j hjl hs, shuts_l1 nodes hn i hi K d (j + 1) _ (by omega), List.drop_eq_getElem_cons hjl]
      congr 1
      rw [Bool.eq_iff_iff]
      simp only [Bool.true_and, Bool.and_eq_true, bne_iff_ne, ne_eq, decide_eq_true_eq, List.mem_cons, not_or]
theorem shuts_l0 (nodes : List Int) (hn : nodes.length ≤ 1000000) (K : Nat) : ∀ (m i : Nat) (free : Bool), i + m = nodes.length →
    feluccalaw17_LeastShuts.l0 (K + m * (sh.length + 2) + 1) l frm sh true ok nodes free (i : Int) h1 t1 h2 t2 =
      ((path_IDs.f K h1 t1).bind fun ids => ((path_Ends.f K l ids frm).bind fun b => feluccalaw17_LeastShuts.l2 K sh true ok (free && avoidB sh (nodes.drop i)) b.1 b.2 1 h1 t1 h2 t2))
  | 0, i, free, hi => by
    rw [Nat.zero_mul, Nat.add_zero, feluccalaw17_LeastShuts.l0, if_neg (by omega), List.drop_eq_nil_of_le (by omega)]
    simp [avoidB]
  | m + 1, i, free, hi => by
    have hil : i < nodes.length := by omega
    have he : K + (m + 1) * (sh.length + 2) + 1 = ((K + m * (sh.length + 2) + 1) + sh.length + 1) + 1 := by rw [Nat.succ_mul]; omega
    rw [he, feluccalaw17_LeastShuts.l0, if_pos (by omega)]
    have h0 := shuts_l1 l frm sh hs ok h1 t1 h2 t2 nodes hn i hil (K + m * (sh.length + 2) + 1) sh.length 0 free (by omega)
    rw [show ((0 : Nat) : Int) = 0 from rfl] at h0
    rw [h0, shuts_l0 nodes hn K m (i + 1) _ (by omega), List.drop_zero]
    have hb : (free && decide (nodes[i] ∉ sh) && avoidB sh (nodes.drop (i + 1))) = (free && avoidB sh (nodes.drop i)) := by
      rw [Bool.and_assoc, List.drop_eq_getElem_cons hil]
      rfl
    rw [hb]
theorem shuts_l3 (free known : Bool) (nodes : List Int) (hn : nodes.length ≤ 1000000) (i : Nat) (hi : i < nodes.length) (K : Nat) : ∀ (d j : Nat), j + d = sh.length → nodes[i] ∉ sh.drop j →
    feluccalaw17_LeastShuts.l3 (K + d + 1) sh true ok free nodes known (i : Int) (j : Int) h1 t1 h2 t2 = feluccalaw17_LeastShuts.l2 K sh true ok free nodes known ((i + 1 : Nat) : Int) h1 t1 h2 t2
  | 0, j, hj, hm => by
    rw [feluccalaw17_LeastShuts.l3, if_neg (by omega), wrap_succ i hi hn]
  | d + 1, j, hj, hm => by
    have hjl : j < sh.length := by omega
    rw [List.drop_eq_getElem_cons hjl, List.mem_cons, not_or] at hm
    rw [show K + (d + 1) + 1 = (K + d + 1) + 1 from by omega, feluccalaw17_LeastShuts.l3, if_pos (by omega), if_pos (by omega), if_pos (by omega), if_pos (by omega), rdI nodes i hi, rdI sh j hjl, if_neg hm.1, wrap_succ j hjl hs, shuts_l3 free known nodes hn i hi K d (j + 1) (by omega) hm.2]
theorem shuts_l2 (free known : Bool) (nodes : List Int) (hn : nodes.length ≤ 1000000) (K : Nat) : ∀ (m i : Nat), i + m = nodes.length → (∀ x ∈ nodes.drop i, x ∉ sh) →
    feluccalaw17_LeastShuts.l2 (K + m * (sh.length + 3) + 1) sh true true free nodes known (i : Int) h1 t1 h2 t2 = feluccalaw17_LeastShuts.j4 K sh true true free nodes known (nodes.length : Int) false h1 t1 h2 t2
  | 0, i, hi, hm => by
    rw [Nat.zero_mul, Nat.add_zero, feluccalaw17_LeastShuts.l2, if_pos rfl, decide_eq_false (by omega), show i = nodes.length from by omega]
  | m + 1, i, hi, hm => by
    have hil : i < nodes.length := by omega
    have he : K + (m + 1) * (sh.length + 3) + 1 = (((K + m * (sh.length + 3) + 1) + sh.length + 1) + 1) + 1 := by rw [Nat.succ_mul]; omega
    rw [List.drop_eq_getElem_cons hil] at hm
    rw [he, feluccalaw17_LeastShuts.l2, if_pos rfl, decide_eq_true (by omega), feluccalaw17_LeastShuts.j4, if_pos rfl]
    have h0 := shuts_l3 sh hs true h1 t1 h2 t2 free known nodes hn i hil (K + m * (sh.length + 3) + 1) sh.length 0 (by omega) (hm _ List.mem_cons_self)
    rw [show ((0 : Nat) : Int) = 0 from rfl] at h0
    rw [h0, shuts_l2 free known nodes hn K m (i + 1) (by omega) (fun x hx => hm x (List.mem_cons_of_mem _ hx))]
end
theorem LeastShuts_any (K0 : Nat) (hK0 : 2900 ≤ K0) (l : List S65) (frm dst now size by_ : Int) (sh : List Int) : feluccalaw17_LeastShuts.f (K0 + 1) l frm dst now size by_ sh = some true := by
  unfold feluccalaw17_LeastShuts.f
  have hsm : feluccalaw17_small.f = some true := rfl
  rw [hsm]
  simp only [Option.bind_some]
  have hj : ∀ b : Bool, (b = false → ¬ (l.length : Int) > 30 ∧ ¬ (sh.length : Int) > 20) → feluccalaw17_LeastShuts.j0 (K0 + 1) l frm dst now size by_ sh true b = some true := fun b hb => by
    rw [feluccalaw17_LeastShuts.j0]
    cases b with
    | true => simp
    | false =>
      obtain ⟨hl, hi⟩ := hb rfl
      have hl' : l.length ≤ 30 := by omega
      have hs' : sh.length ≤ 20 := by omega
      have hs : sh.length ≤ 1000000 := by omega
      simp only [Bool.false_eq_true, if_false]
      rcases least_spec (l := l) (frm := frm) (dst := dst) (now := now) (size := size) (by_ := by_) (sh := []) (by omega) (by simp) with ⟨hle, hnr⟩ | ⟨es, hr, hle, hmin⟩
      · 
        have hno : least_Route.f l frm dst now size by_ sh = some ([], 0, false) := by
          rcases least_spec (l := l) (frm := frm) (dst := dst) (now := now) (size := size) (by_ := by_) (sh := sh) (by omega) hs with ⟨hle', _⟩ | ⟨es', hr', _, _⟩
          · exact hle'
          · exact absurd (route_open hr' (fun _ _ => by simp)) (hnr es')
        rw [hle, hno]
        have hid := path_IDs_eq ([] : List S56) (by simp) K0 (by simp; omega) 0
        simp only [Option.bind_some, hid, List.map_nil]
        rw [path_Ends_eq l (by omega) [] (by simp) K0 (by simp; omega) frm]
        simp
      · have hlen := route_len hr
        have hid := path_IDs_eq (hopsT size es now) (by rw [hopsT_len]; omega) K0 (by rw [hopsT_len]; omega) (endT size es now)
        rw [hopsT_ids] at hid
        have hends := endsP_yes hr.asked.1 hr.asked.2.2.2 (way_chain es _ _ _ hr.way)
        have hE := path_Ends_eq l (by omega) (es.map (·.f0)) (by simp; omega) K0 (by simp; omega) frm
        rw [hends] at hE
        have hm : (es.map (·.f2)).length * (sh.length + 2) ≤ 30 * 22 := Nat.mul_le_mul (by simp; omega) (by omega)
        obtain ⟨K1, hK1⟩ : ∃ K1, K0 = K1 + (es.map (·.f2)).length * (sh.length + 2) + 1 := ⟨K0 - (es.map (·.f2)).length * (sh.length + 2) - 1, by omega⟩
        have hK1' : 2200 ≤ K1 := by omega
        have hdrop : ∀ n : List Int, (frm :: n).drop 1 = n := fun n => rfl
        rcases least_spec (l := l) (frm := frm) (dst := dst) (now := now) (size := size) (by_ := by_) (sh := sh) (by omega) hs with ⟨hle', hnr'⟩ | ⟨es', hr', hle', hmin'⟩
        · 
          have hfree : avoidB sh (es.map (·.f2)) = false := by
            rw [← Bool.not_eq_true, avoidB_iff]
            exact fun g => hnr' es (route_open hr g)
          rw [hle, hle']
          simp only [Option.bind_some, hid, hE, if_true]
          have h0 := shuts_l0 l frm sh hs false [] 0 (hopsT size es now) (endT size es now) (frm :: es.map (·.f2)) (by simp; omega) K1 (es.map (·.f2)).length 1 true (by simp; omega)
          rw [show ((1 : Nat) : Int) = 1 from rfl, ← hK1, hdrop, hfree] at h0
          rw [h0]
          have hid0 := path_IDs_eq ([] : List S56) (by simp) K1 (by simp; omega) 0
          rw [hid0]
          simp only [Option.bind_some, List.map_nil]
          rw [path_Ends_eq l (by omega) [] (by simp) K1 (by simp; omega) frm]
          obtain ⟨K2, rfl⟩ : ∃ K2, K1 = K2 + 1 := ⟨K1 - 1, by omega⟩
          obtain ⟨K3, rfl⟩ : ∃ K3, K2 = K3 + 1 := ⟨K2 - 1, by omega⟩
          simp only [Option.bind_some, feluccalaw17_LeastShuts.l2, feluccalaw17_LeastShuts.j4]
          simp
        · have hlen' := route_len hr'
          have hk := cmpR_le (hmin es' (route_open hr' (fun _ _ => by simp)))
          rw [hle, hle']
          simp only [Option.bind_some, hid, hE, if_true]
          have h0 := shuts_l0 l frm sh hs true (hopsT size es' now) (endT size es' now) (hopsT size es now) (endT size es now) (frm :: es.map (·.f2)) (by simp; omega) K1 (es.map (·.f2)).length 1 true (by simp; omega)
          rw [show ((1 : Nat) : Int) = 1 from rfl, ← hK1, hdrop] at h0
          rw [h0]
          have hid' := path_IDs_eq (hopsT size es' now) (by rw [hopsT_len]; omega) K1 (by rw [hopsT_len]; omega) (endT size es' now)
          rw [hopsT_ids] at hid'
          have hends' := endsP_yes hr'.asked.1 hr'.asked.2.2.2 (way_chain es' _ _ _ hr'.way)
          have hE' := path_Ends_eq l (by omega) (es'.map (·.f0)) (by simp; omega) K1 (by simp; omega) frm
          rw [hends'] at hE'
          rw [hid']
          simp only [Option.bind_some]
          rw [hE']
          simp only [Option.bind_some, Bool.true_and]
          have hm' : (es'.map (·.f2)).length * (sh.length + 3) ≤ 30 * 23 := Nat.mul_le_mul (by simp; omega) (by omega)
          obtain ⟨K2, hK2⟩ : ∃ K2, K1 = K2 + (es'.map (·.f2)).length * (sh.length + 3) + 1 := ⟨K1 - (es'.map (·.f2)).length * (sh.length + 3) - 1, by omega⟩
          have hK2' : 1500 ≤ K2 := by omega
          have h2 := shuts_l2 sh hs (hopsT size es' now) (endT size es' now) (hopsT size es now) (endT size es now) (avoidB sh (es.map (·.f2))) true (frm :: es'.map (·.f2)) (by simp; omega) K2 (es'.map (·.f2)).length 1 (by simp; omega) (by rw [hdrop]; exact route_shut hr')
          rw [show ((1 : Nat) : Int) = 1 from rfl, ← hK2] at h2
          rw [h2]
          obtain ⟨K3, rfl⟩ : ∃ K3, K2 = K3 + 1 := ⟨K2 - 1, by omega⟩
          have hc := order_Compare_eq (hopsT size es now) (hopsT size es' now) (endT size es now) (endT size es' now) (by rw [hopsT_len]; omega) (by rw [hopsT_len]; omega) K3 (by rw [hopsT_len, hopsT_len]; omega)
          rw [feluccalaw17_LeastShuts.j4]
          simp only [Bool.false_eq_true, if_false, if_true, hc, Option.bind_some, decide_eq_true hk.1]
          by_cases hf : ∀ x ∈ es.map (·.f2), x ∉ sh
          · rw [(avoidB_iff _ _).2 hf, if_pos rfl, path_Same_eq _ _ _ _ (by rw [hopsT_len]; omega) K3 (by rw [hopsT_len]; omega)]
            have hids := keyLe_anti (hmin es' (route_open hr' (fun _ _ => by simp))) (hmin' es (route_open hr hf))
            have he := ids_one (rightL_pair hr.asked.2.2.2) es es' (fun e he => (way_all es _ _ _ hr.way e he).1) (fun e he => (way_all es' _ _ _ hr'.way e he).1) hids
            subst he
            simp
          · rw [Bool.eq_false_iff.2 (fun g => hf ((avoidB_iff _ _).1 g))]
            simp
  by_cases hl : (l.length : Int) > 30
  · rw [if_pos hl]
    exact hj true (fun h => by simp at h)
  · rw [if_neg hl]
    refine hj _ (fun h => ⟨hl, by simpa using h⟩)
theorem LeastShuts_true (l : List S65) (frm dst now size by_ : Int) (sh : List Int) : feluccalaw17_LeastShuts.f 3000 l frm dst now size by_ sh = some true := LeastShuts_any 2999 (by omega) l frm dst now size by_ sh
end Go.Proofs.Ytijflnpgiegajaa.Q
end
