/- Part 2 of the texts behind the statement that the last text of this claim proves. -/
import Derived.Maps.OwnSet
import Derived.Maps.RangeWalk
import Derived.Below
import Derived.Deep.Draws
import Derived.Deep.WholeRow
import Derived.Laws.CopyRow
import Derived.Test.YtijflnpgiegajaaKD0
import Derived.Test.YtijflnpgiegajaaKD1
section
namespace Go.Proofs.Ytijflnpgiegajaa.Q
open Go.RowKit Go.Proofs.YtijflnpgiegajaaW.PrintWords Go.Proofs.YtijflnpgiegajaaW.PrintLast Go.Proofs.YtijflnpgiegajaaW.PrintMore
attribute [local go_sem] max2_int min2_int max_two min_two
set_option linter.unusedVariables false
set_option linter.unusedSimpArgs false
def path_asked.f (k : Nat) (l0 : List (S65)) (a1 : Int) (a2 : Int) (a3 : Int) (a4 : Int) : Option (Bool) := (check_Bundle.f a1 a2 a4 0 a3).bind fun t126 => (if t126 = true then ((path_Right.f k l0).bind fun t127 => (some t127)) else (some false))
set_option maxHeartbeats 8000000 in
set_option maxRecDepth 100000 in
theorem path_asked.calls (k : Nat) (A0 : Option Addr) (c0 : Nat) (l0 : List (S65)) (a1 : Int) (a2 : Int) (a3 : Int) (a4 : Int) (r : Bool) (w : World) (hr0 : Kd.C k65 w A0 l0.length l0) (hc0 : l0.length ≤ c0) (h : path_asked.f k l0 a1 a2 a3 a4 = some r) :
    Calls Try.prog 35 #[.slice A0 l0.length c0, .int .i64 a1, .int .i64 a2, .int .i64 a3, .int .i64 a4] w fun e w' => e = .returned (.bool r) ∧ Below w.heap.size w w' := by
  have hu105 := Try.underlying105
  have HR0 := Aside0.mk hr0
  have HC0 := Aside0.mk hc0
  clear hr0 hc0
  have HB := Aside0.mk (Below.refl w.heap.size w)
  have H : ((check_Bundle.f a1 a2 a4 0 a3).bind fun t126 => (if t126 = true then ((path_Right.f k l0).bind fun t127 => (some t127)) else (some false))) = some r := h
  clear h
  replace H := Option.bind_eq_some_iff.mp H
  obtain ⟨t126, A60, H⟩ := H
  replace H : (if t126 = true then ((path_Right.f k l0).bind fun t127 => (some t127)) else (some false)) = some r := H
  have A6 := Aside0.mk A60
  clear A60
  by_cases c7 : t126 = true
  · subst c7
    have H1 : ((path_Right.f k l0).bind fun t127 => (some t127)) = some r := by rw [if_pos rfl] at H; exact H
    clear H
    have H := H1
    clear H1
    replace H := Option.bind_eq_some_iff.mp H
    obtain ⟨t127, A80, H⟩ := H
    replace H : (some t127) = some r := H
    have A8 := Aside0.mk A80
    clear A80
    obtain rfl := Option.some.inj H
    go_enter Try.func35, Try.ntmps35
    go_wp2_with (first | ((with_reducible refine gate_callee (f := 66) rfl ?_); refine goesL_ (some 16) rfl rfl Try.func66 (by kernel_rfl) rfl #[.agg #[.int .i64 a1, .int .i64 a2, .int .i64 a4, .int .i64 0, .int .i64 a3]] rfl (by (try simp only [List.map_toArray, List.map_cons, List.map_nil]); first | done | rfl | (simp only [List.length_drop, List.length_take]; rfl)) ?_; (with_reducible refine (check_Bundle.calls a1 a2 a4 0 a3 true _ A6.out).mono ?_); rintro e w9 ⟨rfl, hb⟩; refine ⟨_, rfl, ?_⟩; have n0_ := Aside0.mk (below_step (by repeat (first | (with_reducible first | exact HB.out | apply below_alloc | apply pw_below_drewN | apply below_drew1) | exact HB.out)) hb); clear HB; have HB := n0_; clear n0_; (try clear hb); (try clear hb2); (try clear hk); (try clear hi)) | (go_at_call 67; (with_reducible refine (path_Right.calls k _ _ l0 t127 _ ?side1 ?side2 A8.out).mono ?_); (case side1 => repeat (first | exact (Kd.C_below HR0.out HB.out) | (with_reducible refine Kd.C_alloc ?_ _) | (with_reducible refine Kd.C_drewN ?_ _) | (with_reducible refine Kd.C_drew ?_))); (case side2 => exact HC0.out); rintro e w10 ⟨rfl, hb⟩; have n0_ := Aside0.mk (below_step (by repeat (first | (with_reducible first | exact HB.out | apply below_alloc | apply pw_below_drewN | apply below_drew1) | exact HB.out)) hb); clear HB; have HB := n0_; clear n0_; (try clear hb); (try clear hb2); (try clear hk); (try clear hi)))
    go_ret
    exact ⟨by first | rfl | (simp [errW_none, errW_some] <;> rfl) | (simp [*, errW_none, errW_some] <;> rfl), by repeat (first | (with_reducible first | exact HB.out | apply below_alloc | apply pw_below_drewN | apply below_drew1) | exact HB.out)⟩
  · replace c7 := Bool.eq_false_iff.mpr c7
    subst c7
    have H1 : (some false) = some r := by rw [if_neg (show ¬ (false = true) by decide)] at H; exact H
    clear H
    have H := H1
    clear H1
    obtain rfl := Option.some.inj H
    go_enter Try.func35, Try.ntmps35
    go_wp2_with (first | ((with_reducible refine gate_callee (f := 66) rfl ?_); refine goesL_ (some 16) rfl rfl Try.func66 (by kernel_rfl) rfl #[.agg #[.int .i64 a1, .int .i64 a2, .int .i64 a4, .int .i64 0, .int .i64 a3]] rfl (by (try simp only [List.map_toArray, List.map_cons, List.map_nil]); first | done | rfl | (simp only [List.length_drop, List.length_take]; rfl)) ?_; (with_reducible refine (check_Bundle.calls a1 a2 a4 0 a3 false _ A6.out).mono ?_); rintro e w11 ⟨rfl, hb⟩; refine ⟨_, rfl, ?_⟩; have n0_ := Aside0.mk (below_step (by repeat (first | (with_reducible first | exact HB.out | apply below_alloc | apply pw_below_drewN | apply below_drew1) | exact HB.out)) hb); clear HB; have HB := n0_; clear n0_; (try clear hb); (try clear hb2); (try clear hk); (try clear hi)))
    go_ret
    exact ⟨by first | rfl | (simp [errW_none, errW_some] <;> rfl) | (simp [*, errW_none, errW_some] <;> rfl), by repeat (first | (with_reducible first | exact HB.out | apply below_alloc | apply pw_below_drewN | apply below_drew1) | exact HB.out)⟩
def hop_right.f (k : Nat) (a0_0 : Int) (a0_1 : Int) (a0_2 : Int) (a0_3 : Int) (a0_4 : Int) (a0_5 : Int) (a0_6 : Int) (a0_7 : Int) (a1 : Int) (a2 : Int) : Option (Bool) := (num_In.f a1 0 1099511627776).bind fun t129 => (if t129 = true then ((num_In.f a2 0 1099511627775).bind fun t130 => (if t130 = true then ((hop_Right.f k a0_0 a0_1 a0_2 a0_3 a0_4 a0_5 a0_6 a0_7).bind fun t131 => (some t131)) else (some false))) else (some false))
set_option maxHeartbeats 8000000 in
set_option maxRecDepth 100000 in
theorem hop_right.calls (k : Nat) (a0_0 : Int) (a0_1 : Int) (a0_2 : Int) (a0_3 : Int) (a0_4 : Int) (a0_5 : Int) (a0_6 : Int) (a0_7 : Int) (a1 : Int) (a2 : Int) (r : Bool) (w : World) (h : hop_right.f k a0_0 a0_1 a0_2 a0_3 a0_4 a0_5 a0_6 a0_7 a1 a2 = some r) :
    Calls Try.prog 73 #[.agg #[.int .i64 a0_0, .int .i64 a0_1, .int .i64 a0_2, .int .i64 a0_3, .int .i64 a0_4, .int .i64 a0_5, .int .i64 a0_6, .int .i64 a0_7], .int .i64 a1, .int .i64 a2] w fun e w' => e = .returned (.bool r) ∧ Below w.heap.size w w' := by
  have hu65 := Try.underlying65
  have HB := Aside0.mk (Below.refl w.heap.size w)
  have H : ((num_In.f a1 0 1099511627776).bind fun t129 => (if t129 = true then ((num_In.f a2 0 1099511627775).bind fun t130 => (if t130 = true then ((hop_Right.f k a0_0 a0_1 a0_2 a0_3 a0_4 a0_5 a0_6 a0_7).bind fun t131 => (some t131)) else (some false))) else (some false))) = some r := h
  clear h
  replace H := Option.bind_eq_some_iff.mp H
  obtain ⟨t129, A40, H⟩ := H
  replace H : (if t129 = true then ((num_In.f a2 0 1099511627775).bind fun t130 => (if t130 = true then ((hop_Right.f k a0_0 a0_1 a0_2 a0_3 a0_4 a0_5 a0_6 a0_7).bind fun t131 => (some t131)) else (some false))) else (some false)) = some r := H
  have A4 := Aside0.mk A40
  clear A40
  by_cases c5 : t129 = true
  · subst c5
    have H1 : ((num_In.f a2 0 1099511627775).bind fun t130 => (if t130 = true then ((hop_Right.f k a0_0 a0_1 a0_2 a0_3 a0_4 a0_5 a0_6 a0_7).bind fun t131 => (some t131)) else (some false))) = some r := by rw [if_pos rfl] at H; exact H
    clear H
    have H := H1
    clear H1
    replace H := Option.bind_eq_some_iff.mp H
    obtain ⟨t130, A60, H⟩ := H
    replace H : (if t130 = true then ((hop_Right.f k a0_0 a0_1 a0_2 a0_3 a0_4 a0_5 a0_6 a0_7).bind fun t131 => (some t131)) else (some false)) = some r := H
    have A6 := Aside0.mk A60
    clear A60
    by_cases c7 : t130 = true
    · subst c7
      have H1 : ((hop_Right.f k a0_0 a0_1 a0_2 a0_3 a0_4 a0_5 a0_6 a0_7).bind fun t131 => (some t131)) = some r := by rw [if_pos rfl] at H; exact H
      clear H
      have H := H1
      clear H1
      replace H := Option.bind_eq_some_iff.mp H
      obtain ⟨t131, A80, H⟩ := H
      replace H : (some t131) = some r := H
      have A8 := Aside0.mk A80
      clear A80
      obtain rfl := Option.some.inj H
      go_enter Try.func73, Try.ntmps73
      go_wp2_with (first | ((with_reducible refine gate_dst (N := 3) rfl ?_); refine box_event ?hg (N := 3) ?hd (cs := #[.int .i64 a0_0, .int .i64 a0_1, .int .i64 a0_2, .int .i64 a0_3, .int .i64 a0_4, .int .i64 a0_5, .int .i64 a0_6, .int .i64 a0_7]) (t := 65) ?hr ?_; (case hd => rfl); (case hg => rfl); (case hr => first | (go_simp; done) | (go_simp; rfl)); intro gb128 hg w9 hbox hb; have n0_ := Aside0.mk (below_step (by repeat (first | (with_reducible first | exact HB.out | apply below_alloc | apply pw_below_drewN | apply below_drew1) | exact HB.out)) hb); have n1_ := Aside0.mk (hbox); have n2_ := Aside0.mk ((by rw [hg]; exact (below_size (by repeat (first | (with_reducible first | exact HB.out | apply below_alloc | apply pw_below_drewN | apply below_drew1) | exact HB.out))) : w.heap.size ≤ gb128)); have n3_ := Aside0.mk ((by rw [hg]; exact (below_size (by repeat (first | (with_reducible first | exact HB.out | apply below_alloc | apply pw_below_drewN | apply below_drew1) | exact HB.out))) : w.heap.size ≤ gb128)); clear HB; have HB := n0_; have BK128 := n1_; have GW128 := n2_; have GE128 := n3_; clear n0_ n1_ n2_ n3_; clear hb hbox hg) | ((with_reducible refine gate_callee (f := 77) rfl ?_); refine goesL_ (some 8) rfl rfl Try.func77 (by kernel_rfl) rfl #[.int .i64 a1, .int .i64 0, .int .i64 1099511627776] rfl (by (try simp only [List.map_toArray, List.map_cons, List.map_nil]); first | done | rfl | (simp only [List.length_drop, List.length_take]; rfl)) ?_; (with_reducible refine (num_In.calls a1 0 1099511627776 true _ A4.out).mono ?_); rintro e w' ⟨rfl, ⟨nd, rfl⟩⟩; refine ⟨_, rfl, ?_⟩) | (go_at_call 77; (with_reducible refine (num_In.calls a2 0 1099511627775 true _ A6.out).mono ?_); rintro e w' ⟨rfl, ⟨nd, rfl⟩⟩; have hcz10_0 : w9.cell? ⟨gb128, 0, none⟩ = some (.int .i64 a0_0) := (blk_cell BK128.out 0).trans rfl; have hcz10_1 : w9.cell? ⟨gb128, 1, none⟩ = some (.int .i64 a0_1) := (blk_cell BK128.out 1).trans rfl; have hcz10_2 : w9.cell? ⟨gb128, 2, none⟩ = some (.int .i64 a0_2) := (blk_cell BK128.out 2).trans rfl; have hcz10_3 : w9.cell? ⟨gb128, 3, none⟩ = some (.int .i64 a0_3) := (blk_cell BK128.out 3).trans rfl; have hcz10_4 : w9.cell? ⟨gb128, 4, none⟩ = some (.int .i64 a0_4) := (blk_cell BK128.out 4).trans rfl; have hcz10_5 : w9.cell? ⟨gb128, 5, none⟩ = some (.int .i64 a0_5) := (blk_cell BK128.out 5).trans rfl; have hcz10_6 : w9.cell? ⟨gb128, 6, none⟩ = some (.int .i64 a0_6) := (blk_cell BK128.out 6).trans rfl; have hcz10_7 : w9.cell? ⟨gb128, 7, none⟩ = some (.int .i64 a0_7) := (blk_cell BK128.out 7).trans rfl; have hfz10_0 := blk_frozen BK128.out 0; have hfz10_1 := blk_frozen BK128.out 1; have hfz10_2 := blk_frozen BK128.out 2; have hfz10_3 := blk_frozen BK128.out 3; have hfz10_4 := blk_frozen BK128.out 4; have hfz10_5 := blk_frozen BK128.out 5; have hfz10_6 := blk_frozen BK128.out 6; have hfz10_7 := blk_frozen BK128.out 7) | (go_at_call 89; (with_reducible refine (hop_Right.calls k a0_0 a0_1 a0_2 a0_3 a0_4 a0_5 a0_6 a0_7 t131 _ A8.out).mono ?_); rintro e w11 ⟨rfl, hb⟩; have n0_ := Aside0.mk (blk_below (g := gb128) (o := .cells #[.int .i64 a0_0, .int .i64 a0_1, .int .i64 a0_2, .int .i64 a0_3, .int .i64 a0_4, .int .i64 a0_5, .int .i64 a0_6, .int .i64 a0_7] 65 (0, 0)) (by (with_reducible repeat (first | refine blk_drewN ?_ _ | refine blk_drew ?_ | refine blk_alloc ?_ _)); exact BK128.out) hb); have n1_ := Aside0.mk (below_step (by repeat (first | (with_reducible first | exact HB.out | apply below_alloc | apply pw_below_drewN | apply below_drew1 | refine below_set ?_ GE128.out) | exact HB.out)) hb); clear BK128; clear HB; have BK128 := n0_; have HB := n1_; clear n0_ n1_; (try clear hb); (try clear hb2); (try clear hk); (try clear hi)))
      go_ret
      exact ⟨by first | rfl | (simp [errW_none, errW_some] <;> rfl) | (simp [*, errW_none, errW_some] <;> rfl), by repeat (first | (with_reducible first | exact HB.out | apply below_alloc | apply pw_below_drewN | apply below_drew1 | refine below_set ?_ GE128.out) | exact HB.out)⟩
    · replace c7 := Bool.eq_false_iff.mpr c7
      subst c7
      have H1 : (some false) = some r := by rw [if_neg (show ¬ (false = true) by decide)] at H; exact H
      clear H
      have H := H1
      clear H1
      obtain rfl := Option.some.inj H
      go_enter Try.func73, Try.ntmps73
      go_wp2_with (first | ((with_reducible refine gate_dst (N := 3) rfl ?_); refine box_event ?hg (N := 3) ?hd (cs := #[.int .i64 a0_0, .int .i64 a0_1, .int .i64 a0_2, .int .i64 a0_3, .int .i64 a0_4, .int .i64 a0_5, .int .i64 a0_6, .int .i64 a0_7]) (t := 65) ?hr ?_; (case hd => rfl); (case hg => rfl); (case hr => first | (go_simp; done) | (go_simp; rfl)); intro gb128 hg w12 hbox hb; have n0_ := Aside0.mk (below_step (by repeat (first | (with_reducible first | exact HB.out | apply below_alloc | apply pw_below_drewN | apply below_drew1) | exact HB.out)) hb); have n1_ := Aside0.mk (hbox); have n2_ := Aside0.mk ((by rw [hg]; exact (below_size (by repeat (first | (with_reducible first | exact HB.out | apply below_alloc | apply pw_below_drewN | apply below_drew1) | exact HB.out))) : w.heap.size ≤ gb128)); have n3_ := Aside0.mk ((by rw [hg]; exact (below_size (by repeat (first | (with_reducible first | exact HB.out | apply below_alloc | apply pw_below_drewN | apply below_drew1) | exact HB.out))) : w.heap.size ≤ gb128)); clear HB; have HB := n0_; have BK128 := n1_; have GW128 := n2_; have GE128 := n3_; clear n0_ n1_ n2_ n3_; clear hb hbox hg) | ((with_reducible refine gate_callee (f := 77) rfl ?_); refine goesL_ (some 8) rfl rfl Try.func77 (by kernel_rfl) rfl #[.int .i64 a1, .int .i64 0, .int .i64 1099511627776] rfl (by (try simp only [List.map_toArray, List.map_cons, List.map_nil]); first | done | rfl | (simp only [List.length_drop, List.length_take]; rfl)) ?_; (with_reducible refine (num_In.calls a1 0 1099511627776 true _ A4.out).mono ?_); rintro e w' ⟨rfl, ⟨nd, rfl⟩⟩; refine ⟨_, rfl, ?_⟩) | (go_at_call 77; (with_reducible refine (num_In.calls a2 0 1099511627775 false _ A6.out).mono ?_); rintro e w' ⟨rfl, ⟨nd, rfl⟩⟩))
      go_ret
      exact ⟨by first | rfl | (simp [errW_none, errW_some] <;> rfl) | (simp [*, errW_none, errW_some] <;> rfl), by repeat (first | (with_reducible first | exact HB.out | apply below_alloc | apply pw_below_drewN | apply below_drew1 | refine below_set ?_ GE128.out) | exact HB.out)⟩
  · replace c5 := Bool.eq_false_iff.mpr c5
    subst c5
    have H1 : (some false) = some r := by rw [if_neg (show ¬ (false = true) by decide)] at H; exact H
    clear H
    have H := H1
    clear H1
    obtain rfl := Option.some.inj H
    go_enter Try.func73, Try.ntmps73
    go_wp2_with (first | ((with_reducible refine gate_dst (N := 3) rfl ?_); refine box_event ?hg (N := 3) ?hd (cs := #[.int .i64 a0_0, .int .i64 a0_1, .int .i64 a0_2, .int .i64 a0_3, .int .i64 a0_4, .int .i64 a0_5, .int .i64 a0_6, .int .i64 a0_7]) (t := 65) ?hr ?_; (case hd => rfl); (case hg => rfl); (case hr => first | (go_simp; done) | (go_simp; rfl)); intro gb128 hg w13 hbox hb; have n0_ := Aside0.mk (below_step (by repeat (first | (with_reducible first | exact HB.out | apply below_alloc | apply pw_below_drewN | apply below_drew1) | exact HB.out)) hb); have n1_ := Aside0.mk (hbox); have n2_ := Aside0.mk ((by rw [hg]; exact (below_size (by repeat (first | (with_reducible first | exact HB.out | apply below_alloc | apply pw_below_drewN | apply below_drew1) | exact HB.out))) : w.heap.size ≤ gb128)); have n3_ := Aside0.mk ((by rw [hg]; exact (below_size (by repeat (first | (with_reducible first | exact HB.out | apply below_alloc | apply pw_below_drewN | apply below_drew1) | exact HB.out))) : w.heap.size ≤ gb128)); clear HB; have HB := n0_; have BK128 := n1_; have GW128 := n2_; have GE128 := n3_; clear n0_ n1_ n2_ n3_; clear hb hbox hg) | ((with_reducible refine gate_callee (f := 77) rfl ?_); refine goesL_ (some 8) rfl rfl Try.func77 (by kernel_rfl) rfl #[.int .i64 a1, .int .i64 0, .int .i64 1099511627776] rfl (by (try simp only [List.map_toArray, List.map_cons, List.map_nil]); first | done | rfl | (simp only [List.length_drop, List.length_take]; rfl)) ?_; (with_reducible refine (num_In.calls a1 0 1099511627776 false _ A4.out).mono ?_); rintro e w' ⟨rfl, ⟨nd, rfl⟩⟩; refine ⟨_, rfl, ?_⟩))
    go_ret
    exact ⟨by first | rfl | (simp [errW_none, errW_some] <;> rfl) | (simp [*, errW_none, errW_some] <;> rfl), by repeat (first | (with_reducible first | exact HB.out | apply below_alloc | apply pw_below_drewN | apply below_drew1 | refine below_set ?_ GE128.out) | exact HB.out)⟩
def num_Ceil.f (a0 : Int) (a1 : Int) : Option (Int × Bool) := if a0 < 0 then (some (0, false)) else (if a1 < 1 then (some (0, false)) else (if a1 = 0 then (none) else (some (wrap64 ((wrap64 (Int.tdiv a0 a1)) + (mn (Int.tmod a0 a1) 1)), true))))
set_option maxHeartbeats 8000000 in
set_option maxRecDepth 100000 in
theorem num_Ceil.calls (a0 : Int) (a1 : Int) (r1 : Int) (r2 : Bool) (w : World) (h : num_Ceil.f a0 a1 = some (r1, r2)) :
    Calls Try.prog 90 #[.int .i64 a0, .int .i64 a1] w fun e w' => e = .returned (.tuple #[.int .i64 r1, .bool r2]) ∧ Below w.heap.size w w' := by
  have HB := Aside0.mk (Below.refl w.heap.size w)
  have H : (if a0 < 0 then (some (0, false)) else (if a1 < 1 then (some (0, false)) else (if a1 = 0 then (none) else (some (wrap64 ((wrap64 (Int.tdiv a0 a1)) + (mn (Int.tmod a0 a1) 1)), true))))) = some (r1, r2) := h
  clear h
  by_cases c3 : a0 < 0
  · rw [if_pos c3] at H
    have c3b0 : decide (a0 < 0) = true := decide_eq_true c3
    clear c3
    simp only [Option.some.injEq, Prod.mk.injEq] at H
    obtain ⟨rfl, rfl⟩ := H
    go_enter Try.func90, Try.ntmps90
    go_wp2
    repeat (go_quiet (fail); try go_wp2)
    go_ret2
    exact ⟨by first | rfl | (simp [errW_none, errW_some] <;> rfl) | (simp [*, errW_none, errW_some] <;> rfl), by repeat (first | (with_reducible first | exact HB.out | apply below_alloc | apply pw_below_drewN | apply below_drew1) | exact HB.out)⟩
  · rw [if_neg c3] at H
    have c3b0 : decide (a0 < 0) = false := decide_eq_false c3
    clear c3
    by_cases c4 : a1 < 1
    · rw [if_pos c4] at H
      have c4b0 : decide (a1 < 1) = true := decide_eq_true c4
      clear c4
      simp only [Option.some.injEq, Prod.mk.injEq] at H
      obtain ⟨rfl, rfl⟩ := H
      go_enter Try.func90, Try.ntmps90
      go_wp2
      repeat (go_quiet (fail); try go_wp2)
      go_ret2
      exact ⟨by first | rfl | (simp [errW_none, errW_some] <;> rfl) | (simp [*, errW_none, errW_some] <;> rfl), by repeat (first | (with_reducible first | exact HB.out | apply below_alloc | apply pw_below_drewN | apply below_drew1) | exact HB.out)⟩
    · rw [if_neg c4] at H
      have c4b0 : decide (a1 < 1) = false := decide_eq_false c4
      clear c4
      by_cases c5 : a1 = 0
      · rw [if_pos c5] at H
        exact absurd H (by simp)
      · rw [if_neg c5] at H
        have c5b0 : (a1 == 0) = false := beq_eq_false_iff_ne.mpr c5
        have c5b1 : (a1 != 0) = true := bne_iff_ne.mpr c5
        obtain ⟨ji6, hji6⟩ : ∃ j_ : Int, (mn (Int.tmod a0 a1) 1) = j_ := ⟨_, rfl⟩
        replace H : (some (wrap64 ((wrap64 (Int.tdiv a0 a1)) + (ji6)), true)) = some (r1, r2) := by first | (rw [hji6] at H; exact H) | (simp only [hji6] at H ⊢; exact H)
        (try (have hji6h : ji6 ≤ 1 := by (rw [← hji6]; unfold mn; (repeat' split) <;> omega)))
        (try (have hji6g : ji6 ≤ 64 := by omega))
        have hji6_ : (if 1 < (Int.tmod a0 a1) then 1 else (Int.tmod a0 a1)) = ji6 := hji6
        simp only [Option.some.injEq, Prod.mk.injEq] at H
        obtain ⟨rfl, rfl⟩ := H
        go_enter Try.func90, Try.ntmps90
        go_wp2
        repeat (go_quiet (fail); try go_wp2)
        go_ret2
        exact ⟨by first | rfl | (simp [errW_none, errW_some] <;> rfl) | (simp only [← hji6]; first | rfl | (simp [errW_none, errW_some] <;> rfl)) | (simp [*, errW_none, errW_some] <;> rfl), by repeat (first | (with_reducible first | exact HB.out | apply below_alloc | apply pw_below_drewN | apply below_drew1) | exact HB.out)⟩
def hop_Takes.f (k : Nat) (a0_0 : Int) (a0_1 : Int) (a0_2 : Int) (a0_3 : Int) (a0_4 : Int) (a0_5 : Int) (a0_6 : Int) (a0_7 : Int) (a1 : Int) : Option (Int) := (hop_right.f k a0_0 a0_1 a0_2 a0_3 a0_4 a0_5 a0_6 a0_7 0 a1).bind fun t133 => (if t133 = true then ((num_Ceil.f a1 a0_5).bind fun bt134 => (some bt134.1)) else (some 0))
set_option maxHeartbeats 8000000 in
set_option maxRecDepth 100000 in
theorem hop_Takes.calls (k : Nat) (a0_0 : Int) (a0_1 : Int) (a0_2 : Int) (a0_3 : Int) (a0_4 : Int) (a0_5 : Int) (a0_6 : Int) (a0_7 : Int) (a1 : Int) (r : Int) (w : World) (h : hop_Takes.f k a0_0 a0_1 a0_2 a0_3 a0_4 a0_5 a0_6 a0_7 a1 = some r) :
    Calls Try.prog 72 #[.agg #[.int .i64 a0_0, .int .i64 a0_1, .int .i64 a0_2, .int .i64 a0_3, .int .i64 a0_4, .int .i64 a0_5, .int .i64 a0_6, .int .i64 a0_7], .int .i64 a1] w fun e w' => e = .returned (.int .i64 r) ∧ Below w.heap.size w w' := by
  have hu65 := Try.underlying65
  have HB := Aside0.mk (Below.refl w.heap.size w)
  have H : ((hop_right.f k a0_0 a0_1 a0_2 a0_3 a0_4 a0_5 a0_6 a0_7 0 a1).bind fun t133 => (if t133 = true then ((num_Ceil.f a1 a0_5).bind fun bt134 => (some bt134.1)) else (some 0))) = some r := h
  clear h
  replace H := Option.bind_eq_some_iff.mp H
  obtain ⟨t133, A30, H⟩ := H
  replace H : (if t133 = true then ((num_Ceil.f a1 a0_5).bind fun bt134 => (some bt134.1)) else (some 0)) = some r := H
  have A3 := Aside0.mk A30
  clear A30
  by_cases c4 : t133 = true
  · subst c4
    have H1 : ((num_Ceil.f a1 a0_5).bind fun bt134 => (some bt134.1)) = some r := by rw [if_pos rfl] at H; exact H
    clear H
    have H := H1
    clear H1
    replace H := Option.bind_eq_some_iff.mp H
    obtain ⟨⟨t134, t135⟩, A50, H⟩ := H
    replace H : (some t134) = some r := H
    have A5 := Aside0.mk A50
    clear A50
    obtain rfl := Option.some.inj H
    go_enter Try.func72, Try.ntmps72
    go_wp2_with (first | ((with_reducible refine gate_dst (N := 2) rfl ?_); refine box_event ?hg (N := 2) ?hd (cs := #[.int .i64 a0_0, .int .i64 a0_1, .int .i64 a0_2, .int .i64 a0_3, .int .i64 a0_4, .int .i64 a0_5, .int .i64 a0_6, .int .i64 a0_7]) (t := 65) ?hr ?_; (case hd => rfl); (case hg => rfl); (case hr => first | (go_simp; done) | (go_simp; rfl)); intro gb132 hg w6 hbox hb; have n0_ := Aside0.mk (below_step (by repeat (first | (with_reducible first | exact HB.out | apply below_alloc | apply pw_below_drewN | apply below_drew1) | exact HB.out)) hb); have n1_ := Aside0.mk (hbox); have n2_ := Aside0.mk ((by rw [hg]; exact (below_size (by repeat (first | (with_reducible first | exact HB.out | apply below_alloc | apply pw_below_drewN | apply below_drew1) | exact HB.out))) : w.heap.size ≤ gb132)); have n3_ := Aside0.mk ((by rw [hg]; exact (below_size (by repeat (first | (with_reducible first | exact HB.out | apply below_alloc | apply pw_below_drewN | apply below_drew1) | exact HB.out))) : w.heap.size ≤ gb132)); clear HB; have HB := n0_; have BK132 := n1_; have GW132 := n2_; have GE132 := n3_; clear n0_ n1_ n2_ n3_; clear hb hbox hg; have hcz7_0 : w6.cell? ⟨gb132, 0, none⟩ = some (.int .i64 a0_0) := (blk_cell BK132.out 0).trans rfl; have hcz7_1 : w6.cell? ⟨gb132, 1, none⟩ = some (.int .i64 a0_1) := (blk_cell BK132.out 1).trans rfl; have hcz7_2 : w6.cell? ⟨gb132, 2, none⟩ = some (.int .i64 a0_2) := (blk_cell BK132.out 2).trans rfl; have hcz7_3 : w6.cell? ⟨gb132, 3, none⟩ = some (.int .i64 a0_3) := (blk_cell BK132.out 3).trans rfl; have hcz7_4 : w6.cell? ⟨gb132, 4, none⟩ = some (.int .i64 a0_4) := (blk_cell BK132.out 4).trans rfl; have hcz7_5 : w6.cell? ⟨gb132, 5, none⟩ = some (.int .i64 a0_5) := (blk_cell BK132.out 5).trans rfl; have hcz7_6 : w6.cell? ⟨gb132, 6, none⟩ = some (.int .i64 a0_6) := (blk_cell BK132.out 6).trans rfl; have hcz7_7 : w6.cell? ⟨gb132, 7, none⟩ = some (.int .i64 a0_7) := (blk_cell BK132.out 7).trans rfl; have hfz7_0 := blk_frozen BK132.out 0; have hfz7_1 := blk_frozen BK132.out 1; have hfz7_2 := blk_frozen BK132.out 2; have hfz7_3 := blk_frozen BK132.out 3; have hfz7_4 := blk_frozen BK132.out 4; have hfz7_5 := blk_frozen BK132.out 5; have hfz7_6 := blk_frozen BK132.out 6; have hfz7_7 := blk_frozen BK132.out 7) | ((with_reducible refine gate_callee (f := 73) rfl ?_); refine goesL_ (some 9) rfl rfl Try.func73 (by kernel_rfl) rfl #[.agg #[.int .i64 a0_0, .int .i64 a0_1, .int .i64 a0_2, .int .i64 a0_3, .int .i64 a0_4, .int .i64 a0_5, .int .i64 a0_6, .int .i64 a0_7], .int .i64 0, .int .i64 a1] rfl (by (try simp only [List.map_toArray, List.map_cons, List.map_nil]); first | done | rfl | (simp only [List.length_drop, List.length_take]; rfl)) ?_; (with_reducible refine (hop_right.calls k a0_0 a0_1 a0_2 a0_3 a0_4 a0_5 a0_6 a0_7 0 a1 true _ A3.out).mono ?_); rintro e w8 ⟨rfl, hb⟩; refine ⟨_, rfl, ?_⟩; have n0_ := Aside0.mk (blk_below (g := gb132) (o := .cells #[.int .i64 a0_0, .int .i64 a0_1, .int .i64 a0_2, .int .i64 a0_3, .int .i64 a0_4, .int .i64 a0_5, .int .i64 a0_6, .int .i64 a0_7] 65 (0, 0)) (by (with_reducible repeat (first | refine blk_drewN ?_ _ | refine blk_drew ?_ | refine blk_alloc ?_ _)); exact BK132.out) hb); have n1_ := Aside0.mk (below_step (by repeat (first | (with_reducible first | exact HB.out | apply below_alloc | apply pw_below_drewN | apply below_drew1 | refine below_set ?_ GE132.out) | exact HB.out)) hb); clear BK132; clear HB; have BK132 := n0_; have HB := n1_; clear n0_ n1_; (try clear hb); (try clear hb2); (try clear hk); (try clear hi); have hcz9_0 : w8.cell? ⟨gb132, 0, none⟩ = some (.int .i64 a0_0) := (blk_cell BK132.out 0).trans rfl; have hcz9_1 : w8.cell? ⟨gb132, 1, none⟩ = some (.int .i64 a0_1) := (blk_cell BK132.out 1).trans rfl; have hcz9_2 : w8.cell? ⟨gb132, 2, none⟩ = some (.int .i64 a0_2) := (blk_cell BK132.out 2).trans rfl; have hcz9_3 : w8.cell? ⟨gb132, 3, none⟩ = some (.int .i64 a0_3) := (blk_cell BK132.out 3).trans rfl; have hcz9_4 : w8.cell? ⟨gb132, 4, none⟩ = some (.int .i64 a0_4) := (blk_cell BK132.out 4).trans rfl; have hcz9_5 : w8.cell? ⟨gb132, 5, none⟩ = some (.int .i64 a0_5) := (blk_cell BK132.out 5).trans rfl; have hcz9_6 : w8.cell? ⟨gb132, 6, none⟩ = some (.int .i64 a0_6) := (blk_cell BK132.out 6).trans rfl; have hcz9_7 : w8.cell? ⟨gb132, 7, none⟩ = some (.int .i64 a0_7) := (blk_cell BK132.out 7).trans rfl; have hfz9_0 := blk_frozen BK132.out 0; have hfz9_1 := blk_frozen BK132.out 1; have hfz9_2 := blk_frozen BK132.out 2; have hfz9_3 := blk_frozen BK132.out 3; have hfz9_4 := blk_frozen BK132.out 4; have hfz9_5 := blk_frozen BK132.out 5; have hfz9_6 := blk_frozen BK132.out 6; have hfz9_7 := blk_frozen BK132.out 7) | ((with_reducible refine gate_callee (f := 90) rfl ?_); refine goesL_ (some 15) rfl rfl Try.func90 (by kernel_rfl) rfl #[.int .i64 a1, .int .i64 a0_5] rfl (by (try simp only [List.map_toArray, List.map_cons, List.map_nil]); first | done | rfl | (simp only [List.length_drop, List.length_take]; rfl)) ?_; (with_reducible refine (num_Ceil.calls a1 a0_5 t134 t135 _ A5.out).mono ?_); rintro e w10 ⟨rfl, hb⟩; refine ⟨_, rfl, ?_⟩; have n0_ := Aside0.mk (blk_below (g := gb132) (o := .cells #[.int .i64 a0_0, .int .i64 a0_1, .int .i64 a0_2, .int .i64 a0_3, .int .i64 a0_4, .int .i64 a0_5, .int .i64 a0_6, .int .i64 a0_7] 65 (0, 0)) (by (with_reducible repeat (first | refine blk_drewN ?_ _ | refine blk_drew ?_ | refine blk_alloc ?_ _)); exact BK132.out) hb); have n1_ := Aside0.mk (below_step (by repeat (first | (with_reducible first | exact HB.out | apply below_alloc | apply pw_below_drewN | apply below_drew1 | refine below_set ?_ GE132.out) | exact HB.out)) hb); clear BK132; clear HB; have BK132 := n0_; have HB := n1_; clear n0_ n1_; (try clear hb); (try clear hb2); (try clear hk); (try clear hi)))
    go_ret
    exact ⟨by first | rfl | (simp [errW_none, errW_some] <;> rfl) | (simp [*, errW_none, errW_some] <;> rfl), by repeat (first | (with_reducible first | exact HB.out | apply below_alloc | apply pw_below_drewN | apply below_drew1 | refine below_set ?_ GE132.out) | exact HB.out)⟩
  · replace c4 := Bool.eq_false_iff.mpr c4
    subst c4
    have H1 : (some 0) = some r := by rw [if_neg (show ¬ (false = true) by decide)] at H; exact H
    clear H
    have H := H1
    clear H1
    obtain rfl := Option.some.inj H
    go_enter Try.func72, Try.ntmps72
    go_wp2_with (first | ((with_reducible refine gate_dst (N := 2) rfl ?_); refine box_event ?hg (N := 2) ?hd (cs := #[.int .i64 a0_0, .int .i64 a0_1, .int .i64 a0_2, .int .i64 a0_3, .int .i64 a0_4, .int .i64 a0_5, .int .i64 a0_6, .int .i64 a0_7]) (t := 65) ?hr ?_; (case hd => rfl); (case hg => rfl); (case hr => first | (go_simp; done) | (go_simp; rfl)); intro gb132 hg w11 hbox hb; have n0_ := Aside0.mk (below_step (by repeat (first | (with_reducible first | exact HB.out | apply below_alloc | apply pw_below_drewN | apply below_drew1) | exact HB.out)) hb); have n1_ := Aside0.mk (hbox); have n2_ := Aside0.mk ((by rw [hg]; exact (below_size (by repeat (first | (with_reducible first | exact HB.out | apply below_alloc | apply pw_below_drewN | apply below_drew1) | exact HB.out))) : w.heap.size ≤ gb132)); have n3_ := Aside0.mk ((by rw [hg]; exact (below_size (by repeat (first | (with_reducible first | exact HB.out | apply below_alloc | apply pw_below_drewN | apply below_drew1) | exact HB.out))) : w.heap.size ≤ gb132)); clear HB; have HB := n0_; have BK132 := n1_; have GW132 := n2_; have GE132 := n3_; clear n0_ n1_ n2_ n3_; clear hb hbox hg; have hcz12_0 : w11.cell? ⟨gb132, 0, none⟩ = some (.int .i64 a0_0) := (blk_cell BK132.out 0).trans rfl; have hcz12_1 : w11.cell? ⟨gb132, 1, none⟩ = some (.int .i64 a0_1) := (blk_cell BK132.out 1).trans rfl; have hcz12_2 : w11.cell? ⟨gb132, 2, none⟩ = some (.int .i64 a0_2) := (blk_cell BK132.out 2).trans rfl; have hcz12_3 : w11.cell? ⟨gb132, 3, none⟩ = some (.int .i64 a0_3) := (blk_cell BK132.out 3).trans rfl; have hcz12_4 : w11.cell? ⟨gb132, 4, none⟩ = some (.int .i64 a0_4) := (blk_cell BK132.out 4).trans rfl; have hcz12_5 : w11.cell? ⟨gb132, 5, none⟩ = some (.int .i64 a0_5) := (blk_cell BK132.out 5).trans rfl; have hcz12_6 : w11.cell? ⟨gb132, 6, none⟩ = some (.int .i64 a0_6) := (blk_cell BK132.out 6).trans rfl; have hcz12_7 : w11.cell? ⟨gb132, 7, none⟩ = some (.int .i64 a0_7) := (blk_cell BK132.out 7).trans rfl; have hfz12_0 := blk_frozen BK132.out 0; have hfz12_1 := blk_frozen BK132.out 1; have hfz12_2 := blk_frozen BK132.out 2; have hfz12_3 := blk_frozen BK132.out 3; have hfz12_4 := blk_frozen BK132.out 4; have hfz12_5 := blk_frozen BK132.out 5; have hfz12_6 := blk_frozen BK132.out 6; have hfz12_7 := blk_frozen BK132.out 7) | ((with_reducible refine gate_callee (f := 73) rfl ?_); refine goesL_ (some 9) rfl rfl Try.func73 (by kernel_rfl) rfl #[.agg #[.int .i64 a0_0, .int .i64 a0_1, .int .i64 a0_2, .int .i64 a0_3, .int .i64 a0_4, .int .i64 a0_5, .int .i64 a0_6, .int .i64 a0_7], .int .i64 0, .int .i64 a1] rfl (by (try simp only [List.map_toArray, List.map_cons, List.map_nil]); first | done | rfl | (simp only [List.length_drop, List.length_take]; rfl)) ?_; (with_reducible refine (hop_right.calls k a0_0 a0_1 a0_2 a0_3 a0_4 a0_5 a0_6 a0_7 0 a1 false _ A3.out).mono ?_); rintro e w13 ⟨rfl, hb⟩; refine ⟨_, rfl, ?_⟩; have n0_ := Aside0.mk (blk_below (g := gb132) (o := .cells #[.int .i64 a0_0, .int .i64 a0_1, .int .i64 a0_2, .int .i64 a0_3, .int .i64 a0_4, .int .i64 a0_5, .int .i64 a0_6, .int .i64 a0_7] 65 (0, 0)) (by (with_reducible repeat (first | refine blk_drewN ?_ _ | refine blk_drew ?_ | refine blk_alloc ?_ _)); exact BK132.out) hb); have n1_ := Aside0.mk (below_step (by repeat (first | (with_reducible first | exact HB.out | apply below_alloc | apply pw_below_drewN | apply below_drew1 | refine below_set ?_ GE132.out) | exact HB.out)) hb); clear BK132; clear HB; have BK132 := n0_; have HB := n1_; clear n0_ n1_; (try clear hb); (try clear hb2); (try clear hk); (try clear hi)))
    go_ret
    exact ⟨by first | rfl | (simp [errW_none, errW_some] <;> rfl) | (simp [*, errW_none, errW_some] <;> rfl), by repeat (first | (with_reducible first | exact HB.out | apply below_alloc | apply pw_below_drewN | apply below_drew1 | refine below_set ?_ GE132.out) | exact HB.out)⟩
def hop_Pass.f (k : Nat) (a0_0 : Int) (a0_1 : Int) (a0_2 : Int) (a0_3 : Int) (a0_4 : Int) (a0_5 : Int) (a0_6 : Int) (a0_7 : Int) (a1 : Int) (a2 : Int) : Option (Int × Int × Bool) := (hop_Takes.f k a0_0 a0_1 a0_2 a0_3 a0_4 a0_5 a0_6 a0_7 a2).bind fun t137 => ((hop_right.f k a0_0 a0_1 a0_2 a0_3 a0_4 a0_5 a0_6 a0_7 a1 a2).bind fun t138 => (if t138 = true then (if a2 > a0_7 then (some (0, 0, false)) else (if (mx a1 a0_3) > (wrap64 (a0_4 - (mx t137 1))) then (some (0, 0, false)) else (some (mx a1 a0_3, wrap64 ((wrap64 ((mx a1 a0_3) + t137)) + a0_6), true)))) else (some (0, 0, false))))
set_option maxHeartbeats 8000000 in
set_option maxRecDepth 100000 in
theorem hop_Pass.calls (k : Nat) (a0_0 : Int) (a0_1 : Int) (a0_2 : Int) (a0_3 : Int) (a0_4 : Int) (a0_5 : Int) (a0_6 : Int) (a0_7 : Int) (a1 : Int) (a2 : Int) (r1 : Int) (r2 : Int) (r3 : Bool) (w : World) (h : hop_Pass.f k a0_0 a0_1 a0_2 a0_3 a0_4 a0_5 a0_6 a0_7 a1 a2 = some (r1, r2, r3)) :
    Calls Try.prog 46 #[.agg #[.int .i64 a0_0, .int .i64 a0_1, .int .i64 a0_2, .int .i64 a0_3, .int .i64 a0_4, .int .i64 a0_5, .int .i64 a0_6, .int .i64 a0_7], .int .i64 a1, .int .i64 a2] w fun e w' => e = .returned (.tuple #[.int .i64 r1, .int .i64 r2, .bool r3]) ∧ Below w.heap.size w w' := by
  have hu65 := Try.underlying65
  have HB := Aside0.mk (Below.refl w.heap.size w)
  have H : ((hop_Takes.f k a0_0 a0_1 a0_2 a0_3 a0_4 a0_5 a0_6 a0_7 a2).bind fun t137 => ((hop_right.f k a0_0 a0_1 a0_2 a0_3 a0_4 a0_5 a0_6 a0_7 a1 a2).bind fun t138 => (if t138 = true then (if a2 > a0_7 then (some (0, 0, false)) else (if (mx a1 a0_3) > (wrap64 (a0_4 - (mx t137 1))) then (some (0, 0, false)) else (some (mx a1 a0_3, wrap64 ((wrap64 ((mx a1 a0_3) + t137)) + a0_6), true)))) else (some (0, 0, false))))) = some (r1, r2, r3) := h
  clear h
  replace H := Option.bind_eq_some_iff.mp H
  obtain ⟨t137, A40, H⟩ := H
  replace H : ((hop_right.f k a0_0 a0_1 a0_2 a0_3 a0_4 a0_5 a0_6 a0_7 a1 a2).bind fun t138 => (if t138 = true then (if a2 > a0_7 then (some (0, 0, false)) else (if (mx a1 a0_3) > (wrap64 (a0_4 - (mx t137 1))) then (some (0, 0, false)) else (some (mx a1 a0_3, wrap64 ((wrap64 ((mx a1 a0_3) + t137)) + a0_6), true)))) else (some (0, 0, false)))) = some (r1, r2, r3) := H
  have A4 := Aside0.mk A40
  clear A40
  obtain ⟨ji5, hji5⟩ : ∃ j_ : Int, (mx a1 a0_3) = j_ := ⟨_, rfl⟩
  replace H : ((hop_right.f k a0_0 a0_1 a0_2 a0_3 a0_4 a0_5 a0_6 a0_7 a1 a2).bind fun t138 => (if t138 = true then (if a2 > a0_7 then (some (0, 0, false)) else (if (ji5) > (wrap64 (a0_4 - (mx t137 1))) then (some (0, 0, false)) else (some (ji5, wrap64 ((wrap64 ((ji5) + t137)) + a0_6), true)))) else (some (0, 0, false)))) = some (r1, r2, r3) := by first | (rw [hji5] at H; exact H) | (simp only [hji5] at H ⊢; exact H)
  (try rw [hji5] at A4)
  have hji5_ : (if a1 < a0_3 then a0_3 else a1) = ji5 := hji5
  replace H := Option.bind_eq_some_iff.mp H
  obtain ⟨t138, A60, H⟩ := H
  replace H : (if t138 = true then (if a2 > a0_7 then (some (0, 0, false)) else (if (ji5) > (wrap64 (a0_4 - (mx t137 1))) then (some (0, 0, false)) else (some (ji5, wrap64 ((wrap64 ((ji5) + t137)) + a0_6), true)))) else (some (0, 0, false))) = some (r1, r2, r3) := H
  have A6 := Aside0.mk A60
  clear A60
  by_cases c7 : t138 = true
  · subst c7
    have H1 : (if a2 > a0_7 then (some (0, 0, false)) else (if (ji5) > (wrap64 (a0_4 - (mx t137 1))) then (some (0, 0, false)) else (some (ji5, wrap64 ((wrap64 ((ji5) + t137)) + a0_6), true)))) = some (r1, r2, r3) := by rw [if_pos rfl] at H; exact H
    clear H
    have H := H1
    clear H1
    by_cases c8 : a2 > a0_7
    · rw [if_pos c8] at H
      have c8b0 : decide (a0_7 < a2) = true := decide_eq_true c8
      clear c8
      simp only [Option.some.injEq, Prod.mk.injEq] at H
      obtain ⟨rfl, rfl, rfl⟩ := H
      go_enter Try.func46, Try.ntmps46
      go_wp2_with (first | ((with_reducible refine gate_dst (N := 3) rfl ?_); (try (refine gate_guard (by rfl) ?_; dsimp only)); refine box_event ?hg (N := 3) ?hd (cs := #[.int .i64 a0_0, .int .i64 a0_1, .int .i64 a0_2, .int .i64 a0_3, .int .i64 a0_4, .int .i64 a0_5, .int .i64 a0_6, .int .i64 a0_7]) (t := 65) ?hr ?_; (case hd => rfl); (case hg => rfl); (case hr => first | (go_simp; done) | (go_simp; rfl)); intro gb136 hg w9 hbox hb; have n0_ := Aside0.mk (below_step (by repeat (first | (with_reducible first | exact HB.out | apply below_alloc | apply pw_below_drewN | apply below_drew1) | exact HB.out)) hb); have n1_ := Aside0.mk (hbox); have n2_ := Aside0.mk ((by rw [hg]; exact (below_size (by repeat (first | (with_reducible first | exact HB.out | apply below_alloc | apply pw_below_drewN | apply below_drew1) | exact HB.out))) : w.heap.size ≤ gb136)); have n3_ := Aside0.mk ((by rw [hg]; exact (below_size (by repeat (first | (with_reducible first | exact HB.out | apply below_alloc | apply pw_below_drewN | apply below_drew1) | exact HB.out))) : w.heap.size ≤ gb136)); clear HB; have HB := n0_; have BK136 := n1_; have GW136 := n2_; have GE136 := n3_; clear n0_ n1_ n2_ n3_; clear hb hbox hg; have hcz10_0 : w9.cell? ⟨gb136, 0, none⟩ = some (.int .i64 a0_0) := (blk_cell BK136.out 0).trans rfl; have hcz10_1 : w9.cell? ⟨gb136, 1, none⟩ = some (.int .i64 a0_1) := (blk_cell BK136.out 1).trans rfl; have hcz10_2 : w9.cell? ⟨gb136, 2, none⟩ = some (.int .i64 a0_2) := (blk_cell BK136.out 2).trans rfl; have hcz10_3 : w9.cell? ⟨gb136, 3, none⟩ = some (.int .i64 a0_3) := (blk_cell BK136.out 3).trans rfl; have hcz10_4 : w9.cell? ⟨gb136, 4, none⟩ = some (.int .i64 a0_4) := (blk_cell BK136.out 4).trans rfl; have hcz10_5 : w9.cell? ⟨gb136, 5, none⟩ = some (.int .i64 a0_5) := (blk_cell BK136.out 5).trans rfl; have hcz10_6 : w9.cell? ⟨gb136, 6, none⟩ = some (.int .i64 a0_6) := (blk_cell BK136.out 6).trans rfl; have hcz10_7 : w9.cell? ⟨gb136, 7, none⟩ = some (.int .i64 a0_7) := (blk_cell BK136.out 7).trans rfl; have hfz10_0 := blk_frozen BK136.out 0; have hfz10_1 := blk_frozen BK136.out 1; have hfz10_2 := blk_frozen BK136.out 2; have hfz10_3 := blk_frozen BK136.out 3; have hfz10_4 := blk_frozen BK136.out 4; have hfz10_5 := blk_frozen BK136.out 5; have hfz10_6 := blk_frozen BK136.out 6; have hfz10_7 := blk_frozen BK136.out 7) | (go_at_call 72; (with_reducible refine (hop_Takes.calls k a0_0 a0_1 a0_2 a0_3 a0_4 a0_5 a0_6 a0_7 a2 t137 _ A4.out).mono ?_); rintro e w11 ⟨rfl, hb⟩; have n0_ := Aside0.mk (blk_below (g := gb136) (o := .cells #[.int .i64 a0_0, .int .i64 a0_1, .int .i64 a0_2, .int .i64 a0_3, .int .i64 a0_4, .int .i64 a0_5, .int .i64 a0_6, .int .i64 a0_7] 65 (0, 0)) (by (with_reducible repeat (first | refine blk_drewN ?_ _ | refine blk_drew ?_ | refine blk_alloc ?_ _)); exact BK136.out) hb); have n1_ := Aside0.mk (below_step (by repeat (first | (with_reducible first | exact HB.out | apply below_alloc | apply pw_below_drewN | apply below_drew1 | refine below_set ?_ GE136.out) | exact HB.out)) hb); clear BK136; clear HB; have BK136 := n0_; have HB := n1_; clear n0_ n1_; (try clear hb); (try clear hb2); (try clear hk); (try clear hi); have hcz12_0 : w11.cell? ⟨gb136, 0, none⟩ = some (.int .i64 a0_0) := (blk_cell BK136.out 0).trans rfl; have hcz12_1 : w11.cell? ⟨gb136, 1, none⟩ = some (.int .i64 a0_1) := (blk_cell BK136.out 1).trans rfl; have hcz12_2 : w11.cell? ⟨gb136, 2, none⟩ = some (.int .i64 a0_2) := (blk_cell BK136.out 2).trans rfl; have hcz12_3 : w11.cell? ⟨gb136, 3, none⟩ = some (.int .i64 a0_3) := (blk_cell BK136.out 3).trans rfl; have hcz12_4 : w11.cell? ⟨gb136, 4, none⟩ = some (.int .i64 a0_4) := (blk_cell BK136.out 4).trans rfl; have hcz12_5 : w11.cell? ⟨gb136, 5, none⟩ = some (.int .i64 a0_5) := (blk_cell BK136.out 5).trans rfl; have hcz12_6 : w11.cell? ⟨gb136, 6, none⟩ = some (.int .i64 a0_6) := (blk_cell BK136.out 6).trans rfl; have hcz12_7 : w11.cell? ⟨gb136, 7, none⟩ = some (.int .i64 a0_7) := (blk_cell BK136.out 7).trans rfl; have hfz12_0 := blk_frozen BK136.out 0; have hfz12_1 := blk_frozen BK136.out 1; have hfz12_2 := blk_frozen BK136.out 2; have hfz12_3 := blk_frozen BK136.out 3; have hfz12_4 := blk_frozen BK136.out 4; have hfz12_5 := blk_frozen BK136.out 5; have hfz12_6 := blk_frozen BK136.out 6; have hfz12_7 := blk_frozen BK136.out 7) | (go_at_call 73; (with_reducible refine (hop_right.calls k a0_0 a0_1 a0_2 a0_3 a0_4 a0_5 a0_6 a0_7 a1 a2 true _ A6.out).mono ?_); rintro e w13 ⟨rfl, hb⟩; have n0_ := Aside0.mk (blk_below (g := gb136) (o := .cells #[.int .i64 a0_0, .int .i64 a0_1, .int .i64 a0_2, .int .i64 a0_3, .int .i64 a0_4, .int .i64 a0_5, .int .i64 a0_6, .int .i64 a0_7] 65 (0, 0)) (by (with_reducible repeat (first | refine blk_drewN ?_ _ | refine blk_drew ?_ | refine blk_alloc ?_ _)); exact BK136.out) hb); have n1_ := Aside0.mk (below_step (by repeat (first | (with_reducible first | exact HB.out | apply below_alloc | apply pw_below_drewN | apply below_drew1 | refine below_set ?_ GE136.out) | exact HB.out)) hb); clear BK136; clear HB; have BK136 := n0_; have HB := n1_; clear n0_ n1_; (try clear hb); (try clear hb2); (try clear hk); (try clear hi); have hcz14_0 : w13.cell? ⟨gb136, 0, none⟩ = some (.int .i64 a0_0) := (blk_cell BK136.out 0).trans rfl; have hcz14_1 : w13.cell? ⟨gb136, 1, none⟩ = some (.int .i64 a0_1) := (blk_cell BK136.out 1).trans rfl; have hcz14_2 : w13.cell? ⟨gb136, 2, none⟩ = some (.int .i64 a0_2) := (blk_cell BK136.out 2).trans rfl; have hcz14_3 : w13.cell? ⟨gb136, 3, none⟩ = some (.int .i64 a0_3) := (blk_cell BK136.out 3).trans rfl; have hcz14_4 : w13.cell? ⟨gb136, 4, none⟩ = some (.int .i64 a0_4) := (blk_cell BK136.out 4).trans rfl; have hcz14_5 : w13.cell? ⟨gb136, 5, none⟩ = some (.int .i64 a0_5) := (blk_cell BK136.out 5).trans rfl; have hcz14_6 : w13.cell? ⟨gb136, 6, none⟩ = some (.int .i64 a0_6) := (blk_cell BK136.out 6).trans rfl; have hcz14_7 : w13.cell? ⟨gb136, 7, none⟩ = some (.int .i64 a0_7) := (blk_cell BK136.out 7).trans rfl; have hfz14_0 := blk_frozen BK136.out 0; have hfz14_1 := blk_frozen BK136.out 1; have hfz14_2 := blk_frozen BK136.out 2; have hfz14_3 := blk_frozen BK136.out 3; have hfz14_4 := blk_frozen BK136.out 4; have hfz14_5 := blk_frozen BK136.out 5; have hfz14_6 := blk_frozen BK136.out 6; have hfz14_7 := blk_frozen BK136.out 7))
      go_ret3
      exact ⟨by first | rfl | (simp [errW_none, errW_some] <;> rfl) | (simp only [← hji5]; first | rfl | (simp [errW_none, errW_some] <;> rfl)) | (simp [*, errW_none, errW_some] <;> rfl), by repeat (first | (with_reducible first | exact HB.out | apply below_alloc | apply pw_below_drewN | apply below_drew1 | refine below_set ?_ GE136.out) | exact HB.out)⟩
    · rw [if_neg c8] at H
      have c8b0 : decide (a0_7 < a2) = false := decide_eq_false c8
      clear c8
      obtain ⟨ji15, hji15⟩ : ∃ j_ : Int, (mx t137 1) = j_ := ⟨_, rfl⟩
      replace H : (if (ji5) > (wrap64 (a0_4 - (ji15))) then (some (0, 0, false)) else (some (ji5, wrap64 ((wrap64 ((ji5) + t137)) + a0_6), true))) = some (r1, r2, r3) := by first | (rw [hji15] at H; exact H) | (simp only [hji15] at H ⊢; exact H)
      (try rw [hji15] at A4)
      (try rw [hji15] at A6)
      (try (have hji15l : 1 ≤ ji15 := by (rw [← hji15]; unfold mx; (repeat' split) <;> omega)))
      (try (have hji15m : 0 ≤ ji15 := by omega))
      have hji15_ : (if t137 < 1 then 1 else t137) = ji15 := hji15
      by_cases c16 : (ji5) > (wrap64 (a0_4 - (ji15)))
      · rw [if_pos c16] at H
        have c16b0 : decide ((wrap64 (a0_4 - (ji15))) < (ji5)) = true := decide_eq_true c16
        clear c16
        simp only [Option.some.injEq, Prod.mk.injEq] at H
        obtain ⟨rfl, rfl, rfl⟩ := H
        go_enter Try.func46, Try.ntmps46
        go_wp2_with (first | ((with_reducible refine gate_dst (N := 3) rfl ?_); (try (refine gate_guard (by rfl) ?_; dsimp only)); refine box_event ?hg (N := 3) ?hd (cs := #[.int .i64 a0_0, .int .i64 a0_1, .int .i64 a0_2, .int .i64 a0_3, .int .i64 a0_4, .int .i64 a0_5, .int .i64 a0_6, .int .i64 a0_7]) (t := 65) ?hr ?_; (case hd => rfl); (case hg => rfl); (case hr => first | (go_simp; done) | (go_simp; rfl)); intro gb136 hg w17 hbox hb; have n0_ := Aside0.mk (below_step (by repeat (first | (with_reducible first | exact HB.out | apply below_alloc | apply pw_below_drewN | apply below_drew1) | exact HB.out)) hb); have n1_ := Aside0.mk (hbox); have n2_ := Aside0.mk ((by rw [hg]; exact (below_size (by repeat (first | (with_reducible first | exact HB.out | apply below_alloc | apply pw_below_drewN | apply below_drew1) | exact HB.out))) : w.heap.size ≤ gb136)); have n3_ := Aside0.mk ((by rw [hg]; exact (below_size (by repeat (first | (with_reducible first | exact HB.out | apply below_alloc | apply pw_below_drewN | apply below_drew1) | exact HB.out))) : w.heap.size ≤ gb136)); clear HB; have HB := n0_; have BK136 := n1_; have GW136 := n2_; have GE136 := n3_; clear n0_ n1_ n2_ n3_; clear hb hbox hg; have hcz18_0 : w17.cell? ⟨gb136, 0, none⟩ = some (.int .i64 a0_0) := (blk_cell BK136.out 0).trans rfl; have hcz18_1 : w17.cell? ⟨gb136, 1, none⟩ = some (.int .i64 a0_1) := (blk_cell BK136.out 1).trans rfl; have hcz18_2 : w17.cell? ⟨gb136, 2, none⟩ = some (.int .i64 a0_2) := (blk_cell BK136.out 2).trans rfl; have hcz18_3 : w17.cell? ⟨gb136, 3, none⟩ = some (.int .i64 a0_3) := (blk_cell BK136.out 3).trans rfl; have hcz18_4 : w17.cell? ⟨gb136, 4, none⟩ = some (.int .i64 a0_4) := (blk_cell BK136.out 4).trans rfl; have hcz18_5 : w17.cell? ⟨gb136, 5, none⟩ = some (.int .i64 a0_5) := (blk_cell BK136.out 5).trans rfl; have hcz18_6 : w17.cell? ⟨gb136, 6, none⟩ = some (.int .i64 a0_6) := (blk_cell BK136.out 6).trans rfl; have hcz18_7 : w17.cell? ⟨gb136, 7, none⟩ = some (.int .i64 a0_7) := (blk_cell BK136.out 7).trans rfl; have hfz18_0 := blk_frozen BK136.out 0; have hfz18_1 := blk_frozen BK136.out 1; have hfz18_2 := blk_frozen BK136.out 2; have hfz18_3 := blk_frozen BK136.out 3; have hfz18_4 := blk_frozen BK136.out 4; have hfz18_5 := blk_frozen BK136.out 5; have hfz18_6 := blk_frozen BK136.out 6; have hfz18_7 := blk_frozen BK136.out 7) | (go_at_call 72; (with_reducible refine (hop_Takes.calls k a0_0 a0_1 a0_2 a0_3 a0_4 a0_5 a0_6 a0_7 a2 t137 _ A4.out).mono ?_); rintro e w19 ⟨rfl, hb⟩; have n0_ := Aside0.mk (blk_below (g := gb136) (o := .cells #[.int .i64 a0_0, .int .i64 a0_1, .int .i64 a0_2, .int .i64 a0_3, .int .i64 a0_4, .int .i64 a0_5, .int .i64 a0_6, .int .i64 a0_7] 65 (0, 0)) (by (with_reducible repeat (first | refine blk_drewN ?_ _ | refine blk_drew ?_ | refine blk_alloc ?_ _)); exact BK136.out) hb); have n1_ := Aside0.mk (below_step (by repeat (first | (with_reducible first | exact HB.out | apply below_alloc | apply pw_below_drewN | apply below_drew1 | refine below_set ?_ GE136.out) | exact HB.out)) hb); clear BK136; clear HB; have BK136 := n0_; have HB := n1_; clear n0_ n1_; (try clear hb); (try clear hb2); (try clear hk); (try clear hi); have hcz20_0 : w19.cell? ⟨gb136, 0, none⟩ = some (.int .i64 a0_0) := (blk_cell BK136.out 0).trans rfl; have hcz20_1 : w19.cell? ⟨gb136, 1, none⟩ = some (.int .i64 a0_1) := (blk_cell BK136.out 1).trans rfl; have hcz20_2 : w19.cell? ⟨gb136, 2, none⟩ = some (.int .i64 a0_2) := (blk_cell BK136.out 2).trans rfl; have hcz20_3 : w19.cell? ⟨gb136, 3, none⟩ = some (.int .i64 a0_3) := (blk_cell BK136.out 3).trans rfl; have hcz20_4 : w19.cell? ⟨gb136, 4, none⟩ = some (.int .i64 a0_4) := (blk_cell BK136.out 4).trans rfl; have hcz20_5 : w19.cell? ⟨gb136, 5, none⟩ = some (.int .i64 a0_5) := (blk_cell BK136.out 5).trans rfl; have hcz20_6 : w19.cell? ⟨gb136, 6, none⟩ = some (.int .i64 a0_6) := (blk_cell BK136.out 6).trans rfl; have hcz20_7 : w19.cell? ⟨gb136, 7, none⟩ = some (.int .i64 a0_7) := (blk_cell BK136.out 7).trans rfl; have hfz20_0 := blk_frozen BK136.out 0; have hfz20_1 := blk_frozen BK136.out 1; have hfz20_2 := blk_frozen BK136.out 2; have hfz20_3 := blk_frozen BK136.out 3; have hfz20_4 := blk_frozen BK136.out 4; have hfz20_5 := blk_frozen BK136.out 5; have hfz20_6 := blk_frozen BK136.out 6; have hfz20_7 := blk_frozen BK136.out 7) | (go_at_call 73; (with_reducible refine (hop_right.calls k a0_0 a0_1 a0_2 a0_3 a0_4 a0_5 a0_6 a0_7 a1 a2 true _ A6.out).mono ?_); rintro e w21 ⟨rfl, hb⟩; have n0_ := Aside0.mk (blk_below (g := gb136) (o := .cells #[.int .i64 a0_0, .int .i64 a0_1, .int .i64 a0_2, .int .i64 a0_3, .int .i64 a0_4, .int .i64 a0_5, .int .i64 a0_6, .int .i64 a0_7] 65 (0, 0)) (by (with_reducible repeat (first | refine blk_drewN ?_ _ | refine blk_drew ?_ | refine blk_alloc ?_ _)); exact BK136.out) hb); have n1_ := Aside0.mk (below_step (by repeat (first | (with_reducible first | exact HB.out | apply below_alloc | apply pw_below_drewN | apply below_drew1 | refine below_set ?_ GE136.out) | exact HB.out)) hb); clear BK136; clear HB; have BK136 := n0_; have HB := n1_; clear n0_ n1_; (try clear hb); (try clear hb2); (try clear hk); (try clear hi); have hcz22_0 : w21.cell? ⟨gb136, 0, none⟩ = some (.int .i64 a0_0) := (blk_cell BK136.out 0).trans rfl; have hcz22_1 : w21.cell? ⟨gb136, 1, none⟩ = some (.int .i64 a0_1) := (blk_cell BK136.out 1).trans rfl; have hcz22_2 : w21.cell? ⟨gb136, 2, none⟩ = some (.int .i64 a0_2) := (blk_cell BK136.out 2).trans rfl; have hcz22_3 : w21.cell? ⟨gb136, 3, none⟩ = some (.int .i64 a0_3) := (blk_cell BK136.out 3).trans rfl; have hcz22_4 : w21.cell? ⟨gb136, 4, none⟩ = some (.int .i64 a0_4) := (blk_cell BK136.out 4).trans rfl; have hcz22_5 : w21.cell? ⟨gb136, 5, none⟩ = some (.int .i64 a0_5) := (blk_cell BK136.out 5).trans rfl; have hcz22_6 : w21.cell? ⟨gb136, 6, none⟩ = some (.int .i64 a0_6) := (blk_cell BK136.out 6).trans rfl; have hcz22_7 : w21.cell? ⟨gb136, 7, none⟩ = some (.int .i64 a0_7) := (blk_cell BK136.out 7).trans rfl; have hfz22_0 := blk_frozen BK136.out 0; have hfz22_1 := blk_frozen BK136.out 1; have hfz22_2 := blk_frozen BK136.out 2; have hfz22_3 := blk_frozen BK136.out 3; have hfz22_4 := blk_frozen BK136.out 4; have hfz22_5 := blk_frozen BK136.out 5; have hfz22_6 := blk_frozen BK136.out 6; have hfz22_7 := blk_frozen BK136.out 7))
        go_ret3
        exact ⟨by first | rfl | (simp [errW_none, errW_some] <;> rfl) | (simp only [← hji5, ← hji15]; first | rfl | (simp [errW_none, errW_some] <;> rfl)) | (simp [*, errW_none, errW_some] <;> rfl), by repeat (first | (with_reducible first | exact HB.out | apply below_alloc | apply pw_below_drewN | apply below_drew1 | refine below_set ?_ GE136.out) | exact HB.out)⟩
      · rw [if_neg c16] at H
        have c16b0 : decide ((wrap64 (a0_4 - (ji15))) < (ji5)) = false := decide_eq_false c16
        clear c16
        simp only [Option.some.injEq, Prod.mk.injEq] at H
        obtain ⟨rfl, rfl, rfl⟩ := H
        go_enter Try.func46, Try.ntmps46
        go_wp2_with (first | ((with_reducible refine gate_dst (N := 3) rfl ?_); (try (refine gate_guard (by rfl) ?_; dsimp only)); refine box_event ?hg (N := 3) ?hd (cs := #[.int .i64 a0_0, .int .i64 a0_1, .int .i64 a0_2, .int .i64 a0_3, .int .i64 a0_4, .int .i64 a0_5, .int .i64 a0_6, .int .i64 a0_7]) (t := 65) ?hr ?_; (case hd => rfl); (case hg => rfl); (case hr => first | (go_simp; done) | (go_simp; rfl)); intro gb136 hg w23 hbox hb; have n0_ := Aside0.mk (below_step (by repeat (first | (with_reducible first | exact HB.out | apply below_alloc | apply pw_below_drewN | apply below_drew1) | exact HB.out)) hb); have n1_ := Aside0.mk (hbox); have n2_ := Aside0.mk ((by rw [hg]; exact (below_size (by repeat (first | (with_reducible first | exact HB.out | apply below_alloc | apply pw_below_drewN | apply below_drew1) | exact HB.out))) : w.heap.size ≤ gb136)); have n3_ := Aside0.mk ((by rw [hg]; exact (below_size (by repeat (first | (with_reducible first | exact HB.out | apply below_alloc | apply pw_below_drewN | apply below_drew1) | exact HB.out))) : w.heap.size ≤ gb136)); clear HB; have HB := n0_; have BK136 := n1_; have GW136 := n2_; have GE136 := n3_; clear n0_ n1_ n2_ n3_; clear hb hbox hg; have hcz24_0 : w23.cell? ⟨gb136, 0, none⟩ = some (.int .i64 a0_0) := (blk_cell BK136.out 0).trans rfl; have hcz24_1 : w23.cell? ⟨gb136, 1, none⟩ = some (.int .i64 a0_1) := (blk_cell BK136.out 1).trans rfl; have hcz24_2 : w23.cell? ⟨gb136, 2, none⟩ = some (.int .i64 a0_2) := (blk_cell BK136.out 2).trans rfl; have hcz24_3 : w23.cell? ⟨gb136, 3, none⟩ = some (.int .i64 a0_3) := (blk_cell BK136.out 3).trans rfl; have hcz24_4 : w23.cell? ⟨gb136, 4, none⟩ = some (.int .i64 a0_4) := (blk_cell BK136.out 4).trans rfl; have hcz24_5 : w23.cell? ⟨gb136, 5, none⟩ = some (.int .i64 a0_5) := (blk_cell BK136.out 5).trans rfl; have hcz24_6 : w23.cell? ⟨gb136, 6, none⟩ = some (.int .i64 a0_6) := (blk_cell BK136.out 6).trans rfl; have hcz24_7 : w23.cell? ⟨gb136, 7, none⟩ = some (.int .i64 a0_7) := (blk_cell BK136.out 7).trans rfl; have hfz24_0 := blk_frozen BK136.out 0; have hfz24_1 := blk_frozen BK136.out 1; have hfz24_2 := blk_frozen BK136.out 2; have hfz24_3 := blk_frozen BK136.out 3; have hfz24_4 := blk_frozen BK136.out 4; have hfz24_5 := blk_frozen BK136.out 5; have hfz24_6 := blk_frozen BK136.out 6; have hfz24_7 := blk_frozen BK136.out 7) | (go_at_call 72; (with_reducible refine (hop_Takes.calls k a0_0 a0_1 a0_2 a0_3 a0_4 a0_5 a0_6 a0_7 a2 t137 _ A4.out).mono ?_); rintro e w25 ⟨rfl, hb⟩; have n0_ := Aside0.mk (blk_below (g := gb136) (o := .cells #[.int .i64 a0_0, .int .i64 a0_1, .int .i64 a0_2, .int .i64 a0_3, .int .i64 a0_4, .int .i64 a0_5, .int .i64 a0_6, .int .i64 a0_7] 65 (0, 0)) (by (with_reducible repeat (first | refine blk_drewN ?_ _ | refine blk_drew ?_ | refine blk_alloc ?_ _)); exact BK136.out) hb); have n1_ := Aside0.mk (below_step (by repeat (first | (with_reducible first | exact HB.out | apply below_alloc | apply pw_below_drewN | apply below_drew1 | refine below_set ?_ GE136.out) | exact HB.out)) hb); clear BK136; clear HB; have BK136 := n0_; have HB := n1_; clear n0_ n1_; (try clear hb); (try clear hb2); (try clear hk); (try clear hi); have hcz26_0 : w25.cell? ⟨gb136, 0, none⟩ = some (.int .i64 a0_0) := (blk_cell BK136.out 0).trans rfl; have hcz26_1 : w25.cell? ⟨gb136, 1, none⟩ = some (.int .i64 a0_1) := (blk_cell BK136.out 1).trans rfl; have hcz26_2 : w25.cell? ⟨gb136, 2, none⟩ = some (.int .i64 a0_2) := (blk_cell BK136.out 2).trans rfl; have hcz26_3 : w25.cell? ⟨gb136, 3, none⟩ = some (.int .i64 a0_3) := (blk_cell BK136.out 3).trans rfl; have hcz26_4 : w25.cell? ⟨gb136, 4, none⟩ = some (.int .i64 a0_4) := (blk_cell BK136.out 4).trans rfl; have hcz26_5 : w25.cell? ⟨gb136, 5, none⟩ = some (.int .i64 a0_5) := (blk_cell BK136.out 5).trans rfl; have hcz26_6 : w25.cell? ⟨gb136, 6, none⟩ = some (.int .i64 a0_6) := (blk_cell BK136.out 6).trans rfl; have hcz26_7 : w25.cell? ⟨gb136, 7, none⟩ = some (.int .i64 a0_7) := (blk_cell BK136.out 7).trans rfl; have hfz26_0 := blk_frozen BK136.out 0; have hfz26_1 := blk_frozen BK136.out 1; have hfz26_2 := blk_frozen BK136.out 2; have hfz26_3 := blk_frozen BK136.out 3; have hfz26_4 := blk_frozen BK136.out 4; have hfz26_5 := blk_frozen BK136.out 5; have hfz26_6 := blk_frozen BK136.out 6; have hfz26_7 := blk_frozen BK136.out 7) | (go_at_call 73; (with_reducible refine (hop_right.calls k a0_0 a0_1 a0_2 a0_3 a0_4 a0_5 a0_6 a0_7 a1 a2 true _ A6.out).mono ?_); rintro e w27 ⟨rfl, hb⟩; have n0_ := Aside0.mk (blk_below (g := gb136) (o := .cells #[.int .i64 a0_0, .int .i64 a0_1, .int .i64 a0_2, .int .i64 a0_3, .int .i64 a0_4, .int .i64 a0_5, .int .i64 a0_6, .int .i64 a0_7] 65 (0, 0)) (by (with_reducible repeat (first | refine blk_drewN ?_ _ | refine blk_drew ?_ | refine blk_alloc ?_ _)); exact BK136.out) hb); have n1_ := Aside0.mk (below_step (by repeat (first | (with_reducible first | exact HB.out | apply below_alloc | apply pw_below_drewN | apply below_drew1 | refine below_set ?_ GE136.out) | exact HB.out)) hb); clear BK136; clear HB; have BK136 := n0_; have HB := n1_; clear n0_ n1_; (try clear hb); (try clear hb2); (try clear hk); (try clear hi); have hcz28_0 : w27.cell? ⟨gb136, 0, none⟩ = some (.int .i64 a0_0) := (blk_cell BK136.out 0).trans rfl; have hcz28_1 : w27.cell? ⟨gb136, 1, none⟩ = some (.int .i64 a0_1) := (blk_cell BK136.out 1).trans rfl; have hcz28_2 : w27.cell? ⟨gb136, 2, none⟩ = some (.int .i64 a0_2) := (blk_cell BK136.out 2).trans rfl; have hcz28_3 : w27.cell? ⟨gb136, 3, none⟩ = some (.int .i64 a0_3) := (blk_cell BK136.out 3).trans rfl; have hcz28_4 : w27.cell? ⟨gb136, 4, none⟩ = some (.int .i64 a0_4) := (blk_cell BK136.out 4).trans rfl; have hcz28_5 : w27.cell? ⟨gb136, 5, none⟩ = some (.int .i64 a0_5) := (blk_cell BK136.out 5).trans rfl; have hcz28_6 : w27.cell? ⟨gb136, 6, none⟩ = some (.int .i64 a0_6) := (blk_cell BK136.out 6).trans rfl; have hcz28_7 : w27.cell? ⟨gb136, 7, none⟩ = some (.int .i64 a0_7) := (blk_cell BK136.out 7).trans rfl; have hfz28_0 := blk_frozen BK136.out 0; have hfz28_1 := blk_frozen BK136.out 1; have hfz28_2 := blk_frozen BK136.out 2; have hfz28_3 := blk_frozen BK136.out 3; have hfz28_4 := blk_frozen BK136.out 4; have hfz28_5 := blk_frozen BK136.out 5; have hfz28_6 := blk_frozen BK136.out 6; have hfz28_7 := blk_frozen BK136.out 7))
        repeat (go_quiet (first | ((with_reducible refine gate_dst (N := 3) rfl ?_); (try (refine gate_guard (by rfl) ?_; dsimp only)); refine box_event ?hg (N := 3) ?hd (cs := #[.int .i64 a0_0, .int .i64 a0_1, .int .i64 a0_2, .int .i64 a0_3, .int .i64 a0_4, .int .i64 a0_5, .int .i64 a0_6, .int .i64 a0_7]) (t := 65) ?hr ?_; (case hd => rfl); (case hg => rfl); (case hr => first | (go_simp; done) | (go_simp; rfl)); intro gb136 hg w23 hbox hb; have n0_ := Aside0.mk (below_step (by repeat (first | (with_reducible first | exact HB.out | apply below_alloc | apply pw_below_drewN | apply below_drew1) | exact HB.out)) hb); have n1_ := Aside0.mk (hbox); have n2_ := Aside0.mk ((by rw [hg]; exact (below_size (by repeat (first | (with_reducible first | exact HB.out | apply below_alloc | apply pw_below_drewN | apply below_drew1) | exact HB.out))) : w.heap.size ≤ gb136)); have n3_ := Aside0.mk ((by rw [hg]; exact (below_size (by repeat (first | (with_reducible first | exact HB.out | apply below_alloc | apply pw_below_drewN | apply below_drew1) | exact HB.out))) : w.heap.size ≤ gb136)); clear HB; have HB := n0_; have BK136 := n1_; have GW136 := n2_; have GE136 := n3_; clear n0_ n1_ n2_ n3_; clear hb hbox hg; have hcz24_0 : w23.cell? ⟨gb136, 0, none⟩ = some (.int .i64 a0_0) := (blk_cell BK136.out 0).trans rfl; have hcz24_1 : w23.cell? ⟨gb136, 1, none⟩ = some (.int .i64 a0_1) := (blk_cell BK136.out 1).trans rfl; have hcz24_2 : w23.cell? ⟨gb136, 2, none⟩ = some (.int .i64 a0_2) := (blk_cell BK136.out 2).trans rfl; have hcz24_3 : w23.cell? ⟨gb136, 3, none⟩ = some (.int .i64 a0_3) := (blk_cell BK136.out 3).trans rfl; have hcz24_4 : w23.cell? ⟨gb136, 4, none⟩ = some (.int .i64 a0_4) := (blk_cell BK136.out 4).trans rfl; have hcz24_5 : w23.cell? ⟨gb136, 5, none⟩ = some (.int .i64 a0_5) := (blk_cell BK136.out 5).trans rfl; have hcz24_6 : w23.cell? ⟨gb136, 6, none⟩ = some (.int .i64 a0_6) := (blk_cell BK136.out 6).trans rfl; have hcz24_7 : w23.cell? ⟨gb136, 7, none⟩ = some (.int .i64 a0_7) := (blk_cell BK136.out 7).trans rfl; have hfz24_0 := blk_frozen BK136.out 0; have hfz24_1 := blk_frozen BK136.out 1; have hfz24_2 := blk_frozen BK136.out 2; have hfz24_3 := blk_frozen BK136.out 3; have hfz24_4 := blk_frozen BK136.out 4; have hfz24_5 := blk_frozen BK136.out 5; have hfz24_6 := blk_frozen BK136.out 6; have hfz24_7 := blk_frozen BK136.out 7) | (go_at_call 72; (with_reducible refine (hop_Takes.calls k a0_0 a0_1 a0_2 a0_3 a0_4 a0_5 a0_6 a0_7 a2 t137 _ A4.out).mono ?_); rintro e w25 ⟨rfl, hb⟩; have n0_ := Aside0.mk (blk_below (g := gb136) (o := .cells #[.int .i64 a0_0, .int .i64 a0_1, .int .i64 a0_2, .int .i64 a0_3, .int .i64 a0_4, .int .i64 a0_5, .int .i64 a0_6, .int .i64 a0_7] 65 (0, 0)) (by (with_reducible repeat (first | refine blk_drewN ?_ _ | refine blk_drew ?_ | refine blk_alloc ?_ _)); exact BK136.out) hb); have n1_ := Aside0.mk (below_step (by repeat (first | (with_reducible first | exact HB.out | apply below_alloc | apply pw_below_drewN | apply below_drew1 | refine below_set ?_ GE136.out) | exact HB.out)) hb); clear BK136; clear HB; have BK136 := n0_; have HB := n1_; clear n0_ n1_; (try clear hb); (try clear hb2); (try clear hk); (try clear hi); have hcz26_0 : w25.cell? ⟨gb136, 0, none⟩ = some (.int .i64 a0_0) := (blk_cell BK136.out 0).trans rfl; have hcz26_1 : w25.cell? ⟨gb136, 1, none⟩ = some (.int .i64 a0_1) := (blk_cell BK136.out 1).trans rfl; have hcz26_2 : w25.cell? ⟨gb136, 2, none⟩ = some (.int .i64 a0_2) := (blk_cell BK136.out 2).trans rfl; have hcz26_3 : w25.cell? ⟨gb136, 3, none⟩ = some (.int .i64 a0_3) := (blk_cell BK136.out 3).trans rfl; have hcz26_4 : w25.cell? ⟨gb136, 4, none⟩ = some (.int .i64 a0_4) := (blk_cell BK136.out 4).trans rfl; have hcz26_5 : w25.cell? ⟨gb136, 5, none⟩ = some (.int .i64 a0_5) := (blk_cell BK136.out 5).trans rfl; have hcz26_6 : w25.cell? ⟨gb136, 6, none⟩ = some (.int .i64 a0_6) := (blk_cell BK136.out 6).trans rfl; have hcz26_7 : w25.cell? ⟨gb136, 7, none⟩ = some (.int .i64 a0_7) := (blk_cell BK136.out 7).trans rfl; have hfz26_0 := blk_frozen BK136.out 0; have hfz26_1 := blk_frozen BK136.out 1; have hfz26_2 := blk_frozen BK136.out 2; have hfz26_3 := blk_frozen BK136.out 3; have hfz26_4 := blk_frozen BK136.out 4; have hfz26_5 := blk_frozen BK136.out 5; have hfz26_6 := blk_frozen BK136.out 6; have hfz26_7 := blk_frozen BK136.out 7) | (go_at_call 73; (with_reducible refine (hop_right.calls k a0_0 a0_1 a0_2 a0_3 a0_4 a0_5 a0_6 a0_7 a1 a2 true _ A6.out).mono ?_); rintro e w27 ⟨rfl, hb⟩; have n0_ := Aside0.mk (blk_below (g := gb136) (o := .cells #[.int .i64 a0_0, .int .i64 a0_1, .int .i64 a0_2, .int .i64 a0_3, .int .i64 a0_4, .int .i64 a0_5, .int .i64 a0_6, .int .i64 a0_7] 65 (0, 0)) (by (with_reducible repeat (first | refine blk_drewN ?_ _ | refine blk_drew ?_ | refine blk_alloc ?_ _)); exact BK136.out) hb); have n1_ := Aside0.mk (below_step (by repeat (first | (with_reducible first | exact HB.out | apply below_alloc | apply pw_below_drewN | apply below_drew1 | refine below_set ?_ GE136.out) | exact HB.out)) hb); clear BK136; clear HB; have BK136 := n0_; have HB := n1_; clear n0_ n1_; (try clear hb); (try clear hb2); (try clear hk); (try clear hi); have hcz28_0 : w27.cell? ⟨gb136, 0, none⟩ = some (.int .i64 a0_0) := (blk_cell BK136.out 0).trans rfl; have hcz28_1 : w27.cell? ⟨gb136, 1, none⟩ = some (.int .i64 a0_1) := (blk_cell BK136.out 1).trans rfl; have hcz28_2 : w27.cell? ⟨gb136, 2, none⟩ = some (.int .i64 a0_2) := (blk_cell BK136.out 2).trans rfl; have hcz28_3 : w27.cell? ⟨gb136, 3, none⟩ = some (.int .i64 a0_3) := (blk_cell BK136.out 3).trans rfl; have hcz28_4 : w27.cell? ⟨gb136, 4, none⟩ = some (.int .i64 a0_4) := (blk_cell BK136.out 4).trans rfl; have hcz28_5 : w27.cell? ⟨gb136, 5, none⟩ = some (.int .i64 a0_5) := (blk_cell BK136.out 5).trans rfl; have hcz28_6 : w27.cell? ⟨gb136, 6, none⟩ = some (.int .i64 a0_6) := (blk_cell BK136.out 6).trans rfl; have hcz28_7 : w27.cell? ⟨gb136, 7, none⟩ = some (.int .i64 a0_7) := (blk_cell BK136.out 7).trans rfl; have hfz28_0 := blk_frozen BK136.out 0; have hfz28_1 := blk_frozen BK136.out 1; have hfz28_2 := blk_frozen BK136.out 2; have hfz28_3 := blk_frozen BK136.out 3; have hfz28_4 := blk_frozen BK136.out 4; have hfz28_5 := blk_frozen BK136.out 5; have hfz28_6 := blk_frozen BK136.out 6; have hfz28_7 := blk_frozen BK136.out 7)); try go_wp2_with (first | ((with_reducible refine gate_dst (N := 3) rfl ?_); (try (refine gate_guard (by rfl) ?_; dsimp only)); refine box_event ?hg (N := 3) ?hd (cs := #[.int .i64 a0_0, .int .i64 a0_1, .int .i64 a0_2, .int .i64 a0_3, .int .i64 a0_4, .int .i64 a0_5, .int .i64 a0_6, .int .i64 a0_7]) (t := 65) ?hr ?_; (case hd => rfl); (case hg => rfl); (case hr => first | (go_simp; done) | (go_simp; rfl)); intro gb136 hg w23 hbox hb; have n0_ := Aside0.mk (below_step (by repeat (first | (with_reducible first | exact HB.out | apply below_alloc | apply pw_below_drewN | apply below_drew1) | exact HB.out)) hb); have n1_ := Aside0.mk (hbox); have n2_ := Aside0.mk ((by rw [hg]; exact (below_size (by repeat (first | (with_reducible first | exact HB.out | apply below_alloc | apply pw_below_drewN | apply below_drew1) | exact HB.out))) : w.heap.size ≤ gb136)); have n3_ := Aside0.mk ((by rw [hg]; exact (below_size (by repeat (first | (with_reducible first | exact HB.out | apply below_alloc | apply pw_below_drewN | apply below_drew1) | exact HB.out))) : w.heap.size ≤ gb136)); clear HB; have HB := n0_; have BK136 := n1_; have GW136 := n2_; have GE136 := n3_; clear n0_ n1_ n2_ n3_; clear hb hbox hg; have hcz24_0 : w23.cell? ⟨gb136, 0, none⟩ = some (.int .i64 a0_0) := (blk_cell BK136.out 0).trans rfl; have hcz24_1 : w23.cell? ⟨gb136, 1, none⟩ = some (.int .i64 a0_1) := (blk_cell BK136.out 1).trans rfl; have hcz24_2 : w23.cell? ⟨gb136, 2, none⟩ = some (.int .i64 a0_2) := (blk_cell BK136.out 2).trans rfl; have hcz24_3 : w23.cell? ⟨gb136, 3, none⟩ = some (.int .i64 a0_3) := (blk_cell BK136.out 3).trans rfl; have hcz24_4 : w23.cell? ⟨gb136, 4, none⟩ = some (.int .i64 a0_4) := (blk_cell BK136.out 4).trans rfl; have hcz24_5 : w23.cell? ⟨gb136, 5, none⟩ = some (.int .i64 a0_5) := (blk_cell BK136.out 5).trans rfl; have hcz24_6 : w23.cell? ⟨gb136, 6, none⟩ = some (.int .i64 a0_6) := (blk_cell BK136.out 6).trans rfl; have hcz24_7 : w23.cell? ⟨gb136, 7, none⟩ = some (.int .i64 a0_7) := (blk_cell BK136.out 7).trans rfl; have hfz24_0 := blk_frozen BK136.out 0; have hfz24_1 := blk_frozen BK136.out 1; have hfz24_2 := blk_frozen BK136.out 2; have hfz24_3 := blk_frozen BK136.out 3; have hfz24_4 := blk_frozen BK136.out 4; have hfz24_5 := blk_frozen BK136.out 5; have hfz24_6 := blk_frozen BK136.out 6; have hfz24_7 := blk_frozen BK136.out 7) | (go_at_call 72; (with_reducible refine (hop_Takes.calls k a0_0 a0_1 a0_2 a0_3 a0_4 a0_5 a0_6 a0_7 a2 t137 _ A4.out).mono ?_); rintro e w25 ⟨rfl, hb⟩; have n0_ := Aside0.mk (blk_below (g := gb136) (o := .cells #[.int .i64 a0_0, .int .i64 a0_1, .int .i64 a0_2, .int .i64 a0_3, .int .i64 a0_4, .int .i64 a0_5, .int .i64 a0_6, .int .i64 a0_7] 65 (0, 0)) (by (with_reducible repeat (first | refine blk_drewN ?_ _ | refine blk_drew ?_ | refine blk_alloc ?_ _)); exact BK136.out) hb); have n1_ := Aside0.mk (below_step (by repeat (first | (with_reducible first | exact HB.out | apply below_alloc | apply pw_below_drewN | apply below_drew1 | refine below_set ?_ GE136.out) | exact HB.out)) hb); clear BK136; clear HB; have BK136 := n0_; have HB := n1_; clear n0_ n1_; (try clear hb); (try clear hb2); (try clear hk); (try clear hi); have hcz26_0 : w25.cell? ⟨gb136, 0, none⟩ = some (.int .i64 a0_0) := (blk_cell BK136.out 0).trans rfl; have hcz26_1 : w25.cell? ⟨gb136, 1, none⟩ = some (.int .i64 a0_1) := (blk_cell BK136.out 1).trans rfl; have hcz26_2 : w25.cell? ⟨gb136, 2, none⟩ = some (.int .i64 a0_2) := (blk_cell BK136.out 2).trans rfl; have hcz26_3 : w25.cell? ⟨gb136, 3, none⟩ = some (.int .i64 a0_3) := (blk_cell BK136.out 3).trans rfl; have hcz26_4 : w25.cell? ⟨gb136, 4, none⟩ = some (.int .i64 a0_4) := (blk_cell BK136.out 4).trans rfl; have hcz26_5 : w25.cell? ⟨gb136, 5, none⟩ = some (.int .i64 a0_5) := (blk_cell BK136.out 5).trans rfl; have hcz26_6 : w25.cell? ⟨gb136, 6, none⟩ = some (.int .i64 a0_6) := (blk_cell BK136.out 6).trans rfl; have hcz26_7 : w25.cell? ⟨gb136, 7, none⟩ = some (.int .i64 a0_7) := (blk_cell BK136.out 7).trans rfl; have hfz26_0 := blk_frozen BK136.out 0; have hfz26_1 := blk_frozen BK136.out 1; have hfz26_2 := blk_frozen BK136.out 2; have hfz26_3 := blk_frozen BK136.out 3; have hfz26_4 := blk_frozen BK136.out 4; have hfz26_5 := blk_frozen BK136.out 5; have hfz26_6 := blk_frozen BK136.out 6; have hfz26_7 := blk_frozen BK136.out 7) | (go_at_call 73; (with_reducible refine (hop_right.calls k a0_0 a0_1 a0_2 a0_3 a0_4 a0_5 a0_6 a0_7 a1 a2 true _ A6.out).mono ?_); rintro e w27 ⟨rfl, hb⟩; have n0_ := Aside0.mk (blk_below (g := gb136) (o := .cells #[.int .i64 a0_0, .int .i64 a0_1, .int .i64 a0_2, .int .i64 a0_3, .int .i64 a0_4, .int .i64 a0_5, .int .i64 a0_6, .int .i64 a0_7] 65 (0, 0)) (by (with_reducible repeat (first | refine blk_drewN ?_ _ | refine blk_drew ?_ | refine blk_alloc ?_ _)); exact BK136.out) hb); have n1_ := Aside0.mk (below_step (by repeat (first | (with_reducible first | exact HB.out | apply below_alloc | apply pw_below_drewN | apply below_drew1 | refine below_set ?_ GE136.out) | exact HB.out)) hb); clear BK136; clear HB; have BK136 := n0_; have HB := n1_; clear n0_ n1_; (try clear hb); (try clear hb2); (try clear hk); (try clear hi); have hcz28_0 : w27.cell? ⟨gb136, 0, none⟩ = some (.int .i64 a0_0) := (blk_cell BK136.out 0).trans rfl; have hcz28_1 : w27.cell? ⟨gb136, 1, none⟩ = some (.int .i64 a0_1) := (blk_cell BK136.out 1).trans rfl; have hcz28_2 : w27.cell? ⟨gb136, 2, none⟩ = some (.int .i64 a0_2) := (blk_cell BK136.out 2).trans rfl; have hcz28_3 : w27.cell? ⟨gb136, 3, none⟩ = some (.int .i64 a0_3) := (blk_cell BK136.out 3).trans rfl; have hcz28_4 : w27.cell? ⟨gb136, 4, none⟩ = some (.int .i64 a0_4) := (blk_cell BK136.out 4).trans rfl; have hcz28_5 : w27.cell? ⟨gb136, 5, none⟩ = some (.int .i64 a0_5) := (blk_cell BK136.out 5).trans rfl; have hcz28_6 : w27.cell? ⟨gb136, 6, none⟩ = some (.int .i64 a0_6) := (blk_cell BK136.out 6).trans rfl; have hcz28_7 : w27.cell? ⟨gb136, 7, none⟩ = some (.int .i64 a0_7) := (blk_cell BK136.out 7).trans rfl; have hfz28_0 := blk_frozen BK136.out 0; have hfz28_1 := blk_frozen BK136.out 1; have hfz28_2 := blk_frozen BK136.out 2; have hfz28_3 := blk_frozen BK136.out 3; have hfz28_4 := blk_frozen BK136.out 4; have hfz28_5 := blk_frozen BK136.out 5; have hfz28_6 := blk_frozen BK136.out 6; have hfz28_7 := blk_frozen BK136.out 7)))
        go_ret3
        exact ⟨by first | rfl | (simp [errW_none, errW_some] <;> rfl) | (simp only [← hji5, ← hji15]; first | rfl | (simp [errW_none, errW_some] <;> rfl)) | (simp [*, errW_none, errW_some] <;> rfl), by repeat (first | (with_reducible first | exact HB.out | apply below_alloc | apply pw_below_drewN | apply below_drew1 | refine below_set ?_ GE136.out) | exact HB.out)⟩
  · replace c7 := Bool.eq_false_iff.mpr c7
    subst c7
    have H1 : (some (0, 0, false)) = some (r1, r2, r3) := by rw [if_neg (show ¬ (false = true) by decide)] at H; exact H
    clear H
    have H := H1
    clear H1
    simp only [Option.some.injEq, Prod.mk.injEq] at H
    obtain ⟨rfl, rfl, rfl⟩ := H
    go_enter Try.func46, Try.ntmps46
    go_wp2_with (first | ((with_reducible refine gate_dst (N := 3) rfl ?_); (try (refine gate_guard (by rfl) ?_; dsimp only)); refine box_event ?hg (N := 3) ?hd (cs := #[.int .i64 a0_0, .int .i64 a0_1, .int .i64 a0_2, .int .i64 a0_3, .int .i64 a0_4, .int .i64 a0_5, .int .i64 a0_6, .int .i64 a0_7]) (t := 65) ?hr ?_; (case hd => rfl); (case hg => rfl); (case hr => first | (go_simp; done) | (go_simp; rfl)); intro gb136 hg w29 hbox hb; have n0_ := Aside0.mk (below_step (by repeat (first | (with_reducible first | exact HB.out | apply below_alloc | apply pw_below_drewN | apply below_drew1) | exact HB.out)) hb); have n1_ := Aside0.mk (hbox); have n2_ := Aside0.mk ((by rw [hg]; exact (below_size (by repeat (first | (with_reducible first | exact HB.out | apply below_alloc | apply pw_below_drewN | apply below_drew1) | exact HB.out))) : w.heap.size ≤ gb136)); have n3_ := Aside0.mk ((by rw [hg]; exact (below_size (by repeat (first | (with_reducible first | exact HB.out | apply below_alloc | apply pw_below_drewN | apply below_drew1) | exact HB.out))) : w.heap.size ≤ gb136)); clear HB; have HB := n0_; have BK136 := n1_; have GW136 := n2_; have GE136 := n3_; clear n0_ n1_ n2_ n3_; clear hb hbox hg; have hcz30_0 : w29.cell? ⟨gb136, 0, none⟩ = some (.int .i64 a0_0) := (blk_cell BK136.out 0).trans rfl; have hcz30_1 : w29.cell? ⟨gb136, 1, none⟩ = some (.int .i64 a0_1) := (blk_cell BK136.out 1).trans rfl; have hcz30_2 : w29.cell? ⟨gb136, 2, none⟩ = some (.int .i64 a0_2) := (blk_cell BK136.out 2).trans rfl; have hcz30_3 : w29.cell? ⟨gb136, 3, none⟩ = some (.int .i64 a0_3) := (blk_cell BK136.out 3).trans rfl; have hcz30_4 : w29.cell? ⟨gb136, 4, none⟩ = some (.int .i64 a0_4) := (blk_cell BK136.out 4).trans rfl; have hcz30_5 : w29.cell? ⟨gb136, 5, none⟩ = some (.int .i64 a0_5) := (blk_cell BK136.out 5).trans rfl; have hcz30_6 : w29.cell? ⟨gb136, 6, none⟩ = some (.int .i64 a0_6) := (blk_cell BK136.out 6).trans rfl; have hcz30_7 : w29.cell? ⟨gb136, 7, none⟩ = some (.int .i64 a0_7) := (blk_cell BK136.out 7).trans rfl; have hfz30_0 := blk_frozen BK136.out 0; have hfz30_1 := blk_frozen BK136.out 1; have hfz30_2 := blk_frozen BK136.out 2; have hfz30_3 := blk_frozen BK136.out 3; have hfz30_4 := blk_frozen BK136.out 4; have hfz30_5 := blk_frozen BK136.out 5; have hfz30_6 := blk_frozen BK136.out 6; have hfz30_7 := blk_frozen BK136.out 7) | (go_at_call 72; (with_reducible refine (hop_Takes.calls k a0_0 a0_1 a0_2 a0_3 a0_4 a0_5 a0_6 a0_7 a2 t137 _ A4.out).mono ?_); rintro e w31 ⟨rfl, hb⟩; have n0_ := Aside0.mk (blk_below (g := gb136) (o := .cells #[.int .i64 a0_0, .int .i64 a0_1, .int .i64 a0_2, .int .i64 a0_3, .int .i64 a0_4, .int .i64 a0_5, .int .i64 a0_6, .int .i64 a0_7] 65 (0, 0)) (by (with_reducible repeat (first | refine blk_drewN ?_ _ | refine blk_drew ?_ | refine blk_alloc ?_ _)); exact BK136.out) hb); have n1_ := Aside0.mk (below_step (by repeat (first | (with_reducible first | exact HB.out | apply below_alloc | apply pw_below_drewN | apply below_drew1 | refine below_set ?_ GE136.out) | exact HB.out)) hb); clear BK136; clear HB; have BK136 := n0_; have HB := n1_; clear n0_ n1_; (try clear hb); (try clear hb2); (try clear hk); (try clear hi); have hcz32_0 : w31.cell? ⟨gb136, 0, none⟩ = some (.int .i64 a0_0) := (blk_cell BK136.out 0).trans rfl; have hcz32_1 : w31.cell? ⟨gb136, 1, none⟩ = some (.int .i64 a0_1) := (blk_cell BK136.out 1).trans rfl; have hcz32_2 : w31.cell? ⟨gb136, 2, none⟩ = some (.int .i64 a0_2) := (blk_cell BK136.out 2).trans rfl; have hcz32_3 : w31.cell? ⟨gb136, 3, none⟩ = some (.int .i64 a0_3) := (blk_cell BK136.out 3).trans rfl; have hcz32_4 : w31.cell? ⟨gb136, 4, none⟩ = some (.int .i64 a0_4) := (blk_cell BK136.out 4).trans rfl; have hcz32_5 : w31.cell? ⟨gb136, 5, none⟩ = some (.int .i64 a0_5) := (blk_cell BK136.out 5).trans rfl; have hcz32_6 : w31.cell? ⟨gb136, 6, none⟩ = some (.int .i64 a0_6) := (blk_cell BK136.out 6).trans rfl; have hcz32_7 : w31.cell? ⟨gb136, 7, none⟩ = some (.int .i64 a0_7) := (blk_cell BK136.out 7).trans rfl; have hfz32_0 := blk_frozen BK136.out 0; have hfz32_1 := blk_frozen BK136.out 1; have hfz32_2 := blk_frozen BK136.out 2; have hfz32_3 := blk_frozen BK136.out 3; have hfz32_4 := blk_frozen BK136.out 4; have hfz32_5 := blk_frozen BK136.out 5; have hfz32_6 := blk_frozen BK136.out 6; have hfz32_7 := blk_frozen BK136.out 7) | (go_at_call 73; (with_reducible refine (hop_right.calls k a0_0 a0_1 a0_2 a0_3 a0_4 a0_5 a0_6 a0_7 a1 a2 false _ A6.out).mono ?_); rintro e w33 ⟨rfl, hb⟩; have n0_ := Aside0.mk (blk_below (g := gb136) (o := .cells #[.int .i64 a0_0, .int .i64 a0_1, .int .i64 a0_2, .int .i64 a0_3, .int .i64 a0_4, .int .i64 a0_5, .int .i64 a0_6, .int .i64 a0_7] 65 (0, 0)) (by (with_reducible repeat (first | refine blk_drewN ?_ _ | refine blk_drew ?_ | refine blk_alloc ?_ _)); exact BK136.out) hb); have n1_ := Aside0.mk (below_step (by repeat (first | (with_reducible first | exact HB.out | apply below_alloc | apply pw_below_drewN | apply below_drew1 | refine below_set ?_ GE136.out) | exact HB.out)) hb); clear BK136; clear HB; have BK136 := n0_; have HB := n1_; clear n0_ n1_; (try clear hb); (try clear hb2); (try clear hk); (try clear hi)))
    go_ret3
    exact ⟨by first | rfl | (simp [errW_none, errW_some] <;> rfl) | (simp only [← hji5]; first | rfl | (simp [errW_none, errW_some] <;> rfl)) | (simp [*, errW_none, errW_some] <;> rfl), by repeat (first | (with_reducible first | exact HB.out | apply below_alloc | apply pw_below_drewN | apply below_drew1 | refine below_set ?_ GE136.out) | exact HB.out)⟩
def view_From.l0 : Nat → Int → List (S65) → List (S65) → Int → Int → Option ((List (S65)))
  | 0, _, _, _, _, _ => none
  | k + 1, x1, x4, x7, x8, x9 => if x9 < x8 then (if 0 ≤ x9 then (if x9 < (x7.length : Int) then (if ((rd_T65 x7 x9).f1) = x1 then (if x4.length < 2199023255552 then (view_From.l0 k x1 (x4 ++ [(⟨(rd_T65 x7 x9).f0, (rd_T65 x7 x9).f1, (rd_T65 x7 x9).f2, (rd_T65 x7 x9).f3, (rd_T65 x7 x9).f4, (rd_T65 x7 x9).f5, (rd_T65 x7 x9).f6, (rd_T65 x7 x9).f7⟩ : S65)]) x7 x8 (wrap64 (x9 + 1))) else (none)) else (view_From.l0 k x1 x4 x7 x8 (wrap64 (x9 + 1)))) else (none)) else (none)) else (some x4)
def view_From.f (k : Nat) (l0 : List (S65)) (a1 : Int) : Option ((List (S65))) := view_From.l0 k a1 ([] : List (S65)) l0 (l0.length : Int) 0
set_option maxHeartbeats 8000000 in
set_option maxRecDepth 100000 in
theorem view_From.calls (k : Nat) (A0 : Option Addr) (c0 : Nat) (l0 : List (S65)) (a1 : Int) (r : List (S65)) (w : World) (hr0 : Kd.C k65 w A0 l0.length l0) (hc0 : l0.length ≤ c0) (h : view_From.f k l0 a1 = some r) :
    Calls Try.prog 45 #[.slice A0 l0.length c0, .int .i64 a1] w fun e w' => ∃ v0_ : Value, e = .returned (v0_) ∧ Kd.R k65 65 w' w.heap.size (fun _ => True) v0_ r ∧ Below w.heap.size w w' := by
  have hu65 := Try.underlying65
  have HR0 := Aside0.mk hr0
  have HC0 := Aside0.mk hc0
  clear hr0 hc0
  have HB := Aside0.mk (Below.refl w.heap.size w)
  have H : (view_From.l0 k a1 ([] : List (S65)) l0 (l0.length : Int) 0) = some r := h
  clear h
  have H' := Aside0.mk H
  clear H
  go_enter Try.func45, Try.ntmps45
  go_wp2
  go_loopg [4, 9] k (fun kq v4 v9 w' => ∃ (x4_1 : List (S65)) (x9_1 : Int), v9 = .int .i64 x9_1 ∧ Aside0 (view_From.l0 kq a1 x4_1 l0 (l0.length : Int) x9_1 = some r) ∧ Aside0 (kq ≤ k) ∧ Aside0 (Kd.R k65 65 w' w.heap.size (fun _ => True) v4 x4_1) ∧ Aside0 (Below w.heap.size w w'))
  case atStart => exact ⟨(([] : List (S65))), (0), (by first | rfl | (simp; done) | (simp [*]; done)), H', ⟨Nat.le_refl _⟩, ⟨by first | exact Kd.R_nil _ _ _ _ _ | exact Kd.N_nil _ _ _ _ _ | exact Kd.V_nil _ _ _ _ _ | exact Kd.Q_nil _ _ _ _ _ | exact Kd.S_nil _ _ _ _ _⟩, ⟨by repeat (first | (with_reducible first | exact HB.out | apply below_alloc | apply pw_below_drewN | apply below_drew1) | exact HB.out)⟩⟩
  case round =>
    clear H'
    try clear p2
    obtain ⟨x4_1, x9_1, rfl, HA, HK1, HO_4, HB⟩ := hrel
    cases gk with
    | zero => exact absurd HA.out (by simp [view_From.l0])
    | succ k1 =>
      have H := HA.out
      clear HA
      simp only [view_From.l0] at H
      by_cases c3 : x9_1 < (l0.length : Int)
      · rw [if_pos c3] at H
        have c3b0 : decide (x9_1 < (l0.length : Int)) = true := decide_eq_true c3
        clear c3
        by_cases c4 : 0 ≤ x9_1
        · rw [if_pos c4] at H
          have c4b0 : decide (0 ≤ x9_1) = true := decide_eq_true c4
          clear c4
          by_cases c5 : x9_1 < (l0.length : Int)
          · rw [if_pos c5] at H
            have c5b0 : decide (x9_1 < (l0.length : Int)) = true := decide_eq_true c5
            clear c5
            by_cases c6 : ((rd_T65 l0 x9_1).f1) = a1
            · rw [if_pos c6] at H
              have c6b0 : (((rd_T65 l0 x9_1).f1) == a1) = true := beq_iff_eq.mpr c6
              have c6b1 : (((rd_T65 l0 x9_1).f1) != a1) = false := bne_eq_false_iff_eq.mpr c6
              clear c6
              by_cases c7 : x4_1.length < 2199023255552
              · rw [if_pos c7] at H
                have LMc7 := Aside0.mk c7
                clear c7
                obtain ⟨y158, hy158⟩ : ∃ y_ : List (S65), y_ = (x4_1 ++ [(⟨(rd_T65 l0 x9_1).f0, (rd_T65 l0 x9_1).f1, (rd_T65 l0 x9_1).f2, (rd_T65 l0 x9_1).f3, (rd_T65 l0 x9_1).f4, (rd_T65 l0 x9_1).f5, (rd_T65 l0 x9_1).f6, (rd_T65 l0 x9_1).f7⟩ : S65)]) := ⟨_, rfl⟩
                replace H : (view_From.l0 k1 a1 y158 l0 (l0.length : Int) (wrap64 (x9_1 + 1))) = some r := by first | (rw [hy158]; with_reducible exact H) | (have H2_ := (Option.bind_some _ _).symm.trans H; rw [hy158]; with_reducible exact H2_) | (have H2_ := (Option.bind_some _ _).symm.trans H; with_reducible exact H2_) | with_reducible exact H | (rw [hy158]; exact H) | exact H
                have Ny158 := Aside0.mk hy158
                clear hy158
                have H' := Aside0.mk H
                clear H
                have p156 : 0 ≤ (x9_1 : Int) := of_decide_eq_true (by first | (with_reducible assumption) | assumption)
                have q156 : x9_1 < (l0.length : Int) := of_decide_eq_true (by first | (with_reducible assumption) | assumption)
                obtain ⟨ad156, e156, hx156_0, hx156_1, hx156_2, hx156_3, hx156_4, hx156_5, hx156_6, hx156_7⟩ := at_T65 HR0.out x9_1 p156 q156
                cases e156
                replace hx156_0 := (HB.out.cell (World.block_lt_of_cell? w _ hx156_0)).trans hx156_0
                replace hx156_1 := (HB.out.cell (World.block_lt_of_cell? w _ hx156_1)).trans hx156_1
                replace hx156_2 := (HB.out.cell (World.block_lt_of_cell? w _ hx156_2)).trans hx156_2
                replace hx156_3 := (HB.out.cell (World.block_lt_of_cell? w _ hx156_3)).trans hx156_3
                replace hx156_4 := (HB.out.cell (World.block_lt_of_cell? w _ hx156_4)).trans hx156_4
                replace hx156_5 := (HB.out.cell (World.block_lt_of_cell? w _ hx156_5)).trans hx156_5
                replace hx156_6 := (HB.out.cell (World.block_lt_of_cell? w _ hx156_6)).trans hx156_6
                replace hx156_7 := (HB.out.cell (World.block_lt_of_cell? w _ hx156_7)).trans hx156_7
                replace p156 := eq_true p156
                replace q156 := eq_true q156
                go_wp2_with (first | ((with_reducible refine gate_dst (N := 6) rfl ?_); refine box_event ?hg (N := 6) ?hd (cs := #[.int .i64 0, .int .i64 0, .int .i64 0, .int .i64 0, .int .i64 0, .int .i64 0, .int .i64 0, .int .i64 0]) (t := 65) ?hr ?_; (case hd => rfl); (case hg => rfl); (case hr => first | (go_simp; done) | (go_simp; rfl)); intro gb157 hg w8 hbox hb; have n0_ := Aside0.mk (Kd.R_below (Kd.R_elderB (by (with_reducible repeat (first | apply Kd.R_alloc | apply Kd.R_drewN | apply Kd.R_drew)); exact HO_4.out) gb157 (Nat.le_of_eq hg.symm)) hb); have n1_ := Aside0.mk (below_step (by repeat (first | (with_reducible first | exact HB.out | apply below_alloc | apply pw_below_drewN | apply below_drew1) | exact HB.out)) hb); have n2_ := Aside0.mk (hbox); have n3_ := Aside0.mk ((by rw [hg]; exact (below_size (by repeat (first | (with_reducible first | exact HB.out | apply below_alloc | apply pw_below_drewN | apply below_drew1) | exact HB.out))) : w.heap.size ≤ gb157)); have n4_ := Aside0.mk ((by rw [hg]; exact (below_size (by repeat (first | (with_reducible first | exact HB.out | apply below_alloc | apply pw_below_drewN | apply below_drew1) | exact HB.out))) : w.heap.size ≤ gb157)); clear HO_4; clear HB; have HO_4 := n0_; have HB := n1_; have BK157 := n2_; have GW157 := n3_; have GE157 := n4_; clear n0_ n1_ n2_ n3_ n4_; clear hb hbox hg; have hcz9_0 : w8.cell? ⟨gb157, 0, none⟩ = some (.int .i64 0) := (blk_cell BK157.out 0).trans rfl; have hcz9_1 : w8.cell? ⟨gb157, 1, none⟩ = some (.int .i64 0) := (blk_cell BK157.out 1).trans rfl; have hcz9_2 : w8.cell? ⟨gb157, 2, none⟩ = some (.int .i64 0) := (blk_cell BK157.out 2).trans rfl; have hcz9_3 : w8.cell? ⟨gb157, 3, none⟩ = some (.int .i64 0) := (blk_cell BK157.out 3).trans rfl; have hcz9_4 : w8.cell? ⟨gb157, 4, none⟩ = some (.int .i64 0) := (blk_cell BK157.out 4).trans rfl; have hcz9_5 : w8.cell? ⟨gb157, 5, none⟩ = some (.int .i64 0) := (blk_cell BK157.out 5).trans rfl; have hcz9_6 : w8.cell? ⟨gb157, 6, none⟩ = some (.int .i64 0) := (blk_cell BK157.out 6).trans rfl; have hcz9_7 : w8.cell? ⟨gb157, 7, none⟩ = some (.int .i64 0) := (blk_cell BK157.out 7).trans rfl; have hfz9_0 := blk_frozen BK157.out 0; have hfz9_1 := blk_frozen BK157.out 1; have hfz9_2 := blk_frozen BK157.out 2; have hfz9_3 := blk_frozen BK157.out 3; have hfz9_4 := blk_frozen BK157.out 4; have hfz9_5 := blk_frozen BK157.out 5; have hfz9_6 := blk_frozen BK157.out 6; have hfz9_7 := blk_frozen BK157.out 7) | ((with_reducible refine gate_builtin (b := .append) (xs := #[.tmp 17, .tmp 19]) rfl ?_); at_builtin; refine Kd.R_append k65 (w0 := w) w.heap.size rfl (.tmp 17) (.tmp 19) 22 65 (.agg #[(.int .i64 0), (.int .i64 0), (.int .i64 0), (.int .i64 0), (.int .i64 0), (.int .i64 0), (.int .i64 0), (.int .i64 0)]) 64 rfl Try.underlying22 info65 rfl (by decide) (by omega) u4 x4_1 (⟨(rd_T65 l0 x9_1).f0, (rd_T65 l0 x9_1).f1, (rd_T65 l0 x9_1).f2, (rd_T65 l0 x9_1).f3, (rd_T65 l0 x9_1).f4, (rd_T65 l0 x9_1).f5, (rd_T65 l0 x9_1).f6, (rd_T65 l0 x9_1).f7⟩ : S65) [.int .i64 ((rd_T65 l0 x9_1).f0), .int .i64 ((rd_T65 l0 x9_1).f1), .int .i64 ((rd_T65 l0 x9_1).f2), .int .i64 ((rd_T65 l0 x9_1).f3), .int .i64 ((rd_T65 l0 x9_1).f4), .int .i64 ((rd_T65 l0 x9_1).f5), .int .i64 ((rd_T65 l0 x9_1).f6), .int .i64 ((rd_T65 l0 x9_1).f7)] (fun k_ => k_ ≠ gb157) (fun _ => False) rfl (by first | (go_simp; done) | (go_simp; rfl)) ?aP (fun _ hk => hk.elim) ?aF ?aO ?aB ?aS ?aL ?_; (case aP => exact k65_mkM _ _ _ (⟨(rd_T65 l0 x9_1).f0, (rd_T65 l0 x9_1).f1, (rd_T65 l0 x9_1).f2, (rd_T65 l0 x9_1).f3, (rd_T65 l0 x9_1).f4, (rd_T65 l0 x9_1).f5, (rd_T65 l0 x9_1).f6, (rd_T65 l0 x9_1).f7⟩ : S65)); (case aB => exact (by repeat (first | (with_reducible first | exact HB.out | apply below_alloc | apply pw_below_drewN | apply below_drew1 | refine below_set ?_ GE157.out) | exact HB.out))); (case aF => exact (fun k_ hk => Kd.freshB (g := gb157) (o := .cells #[.int .i64 ((rd_T65 l0 x9_1).f0), .int .i64 ((rd_T65 l0 x9_1).f1), .int .i64 ((rd_T65 l0 x9_1).f2), .int .i64 ((rd_T65 l0 x9_1).f3), .int .i64 ((rd_T65 l0 x9_1).f4), .int .i64 ((rd_T65 l0 x9_1).f5), .int .i64 ((rd_T65 l0 x9_1).f6), .int .i64 ((rd_T65 l0 x9_1).f7)] 65 (0, 0)) (by (with_reducible repeat (first | refine blk_drewN ?_ _ | refine blk_drew ?_ | refine blk_alloc ?_ _)); refine blk_put (cs := #[.int .i64 ((rd_T65 l0 x9_1).f0), .int .i64 ((rd_T65 l0 x9_1).f1), .int .i64 ((rd_T65 l0 x9_1).f2), .int .i64 ((rd_T65 l0 x9_1).f3), .int .i64 ((rd_T65 l0 x9_1).f4), .int .i64 ((rd_T65 l0 x9_1).f5), .int .i64 ((rd_T65 l0 x9_1).f6), .int .i64 0]) ?_ 7 _ rfl; (with_reducible repeat (first | refine blk_drewN ?_ _ | refine blk_drew ?_ | refine blk_alloc ?_ _)); refine blk_put (cs := #[.int .i64 ((rd_T65 l0 x9_1).f0), .int .i64 ((rd_T65 l0 x9_1).f1), .int .i64 ((rd_T65 l0 x9_1).f2), .int .i64 ((rd_T65 l0 x9_1).f3), .int .i64 ((rd_T65 l0 x9_1).f4), .int .i64 ((rd_T65 l0 x9_1).f5), .int .i64 0, .int .i64 0]) ?_ 6 _ rfl; (with_reducible repeat (first | refine blk_drewN ?_ _ | refine blk_drew ?_ | refine blk_alloc ?_ _)); refine blk_put (cs := #[.int .i64 ((rd_T65 l0 x9_1).f0), .int .i64 ((rd_T65 l0 x9_1).f1), .int .i64 ((rd_T65 l0 x9_1).f2), .int .i64 ((rd_T65 l0 x9_1).f3), .int .i64 ((rd_T65 l0 x9_1).f4), .int .i64 0, .int .i64 0, .int .i64 0]) ?_ 5 _ rfl; (with_reducible repeat (first | refine blk_drewN ?_ _ | refine blk_drew ?_ | refine blk_alloc ?_ _)); refine blk_put (cs := #[.int .i64 ((rd_T65 l0 x9_1).f0), .int .i64 ((rd_T65 l0 x9_1).f1), .int .i64 ((rd_T65 l0 x9_1).f2), .int .i64 ((rd_T65 l0 x9_1).f3), .int .i64 0, .int .i64 0, .int .i64 0, .int .i64 0]) ?_ 4 _ rfl; (with_reducible repeat (first | refine blk_drewN ?_ _ | refine blk_drew ?_ | refine blk_alloc ?_ _)); refine blk_put (cs := #[.int .i64 ((rd_T65 l0 x9_1).f0), .int .i64 ((rd_T65 l0 x9_1).f1), .int .i64 ((rd_T65 l0 x9_1).f2), .int .i64 0, .int .i64 0, .int .i64 0, .int .i64 0, .int .i64 0]) ?_ 3 _ rfl; (with_reducible repeat (first | refine blk_drewN ?_ _ | refine blk_drew ?_ | refine blk_alloc ?_ _)); refine blk_put (cs := #[.int .i64 ((rd_T65 l0 x9_1).f0), .int .i64 ((rd_T65 l0 x9_1).f1), .int .i64 0, .int .i64 0, .int .i64 0, .int .i64 0, .int .i64 0, .int .i64 0]) ?_ 2 _ rfl; (with_reducible repeat (first | refine blk_drewN ?_ _ | refine blk_drew ?_ | refine blk_alloc ?_ _)); refine blk_put (cs := #[.int .i64 ((rd_T65 l0 x9_1).f0), .int .i64 0, .int .i64 0, .int .i64 0, .int .i64 0, .int .i64 0, .int .i64 0, .int .i64 0]) ?_ 1 _ rfl; (with_reducible repeat (first | refine blk_drewN ?_ _ | refine blk_drew ?_ | refine blk_alloc ?_ _)); refine blk_put (cs := #[.int .i64 0, .int .i64 0, .int .i64 0, .int .i64 0, .int .i64 0, .int .i64 0, .int .i64 0, .int .i64 0]) ?_ 0 _ rfl; (with_reducible repeat (first | refine blk_drewN ?_ _ | refine blk_drew ?_ | refine blk_alloc ?_ _)); exact BK157.out) k_ hk)); (case aO => exact (by (with_reducible repeat (first | apply Kd.R_alloc | apply Kd.R_drewN | apply Kd.R_drew)); exact Kd.R_mono (Kd.R_far (p := ⟨gb157, 7, none⟩) (Kd.R_far (p := ⟨gb157, 6, none⟩) (Kd.R_far (p := ⟨gb157, 5, none⟩) (Kd.R_far (p := ⟨gb157, 4, none⟩) (Kd.R_far (p := ⟨gb157, 3, none⟩) (Kd.R_far (p := ⟨gb157, 2, none⟩) (Kd.R_far (p := ⟨gb157, 1, none⟩) (Kd.R_far (p := ⟨gb157, 0, none⟩) (Kd.R_mono HO_4.out (fun k_ hk => (⟨hk, hk.2⟩ : _ ∧ k_ ≠ gb157))) (fun _ hk => hk.2) (.int .i64 ((rd_T65 l0 x9_1).f0))) (fun _ hk => hk.2) (.int .i64 ((rd_T65 l0 x9_1).f1))) (fun _ hk => hk.2) (.int .i64 ((rd_T65 l0 x9_1).f2))) (fun _ hk => hk.2) (.int .i64 ((rd_T65 l0 x9_1).f3))) (fun _ hk => hk.2) (.int .i64 ((rd_T65 l0 x9_1).f4))) (fun _ hk => hk.2) (.int .i64 ((rd_T65 l0 x9_1).f5))) (fun _ hk => hk.2) (.int .i64 ((rd_T65 l0 x9_1).f6))) (fun _ hk => hk.2) (.int .i64 ((rd_T65 l0 x9_1).f7))) (fun _ hk => hk.1.2))); (case aS => exact (below_size (by repeat (first | (with_reducible first | exact HB.out | apply below_alloc | apply pw_below_drewN | apply below_drew1 | refine below_set ?_ GE157.out) | exact HB.out)))); (case aL => have := LMc7.out; omega); intro v159 w10 ho hb hg hat; rw [← Ny158.out] at ho; have n0_ := Aside0.mk (blk_grown (g := gb157) (o := .cells #[.int .i64 ((rd_T65 l0 x9_1).f0), .int .i64 ((rd_T65 l0 x9_1).f1), .int .i64 ((rd_T65 l0 x9_1).f2), .int .i64 ((rd_T65 l0 x9_1).f3), .int .i64 ((rd_T65 l0 x9_1).f4), .int .i64 ((rd_T65 l0 x9_1).f5), .int .i64 ((rd_T65 l0 x9_1).f6), .int .i64 ((rd_T65 l0 x9_1).f7)] 65 (0, 0)) (by (with_reducible repeat (first | refine blk_drewN ?_ _ | refine blk_drew ?_ | refine blk_alloc ?_ _)); refine blk_put (cs := #[.int .i64 ((rd_T65 l0 x9_1).f0), .int .i64 ((rd_T65 l0 x9_1).f1), .int .i64 ((rd_T65 l0 x9_1).f2), .int .i64 ((rd_T65 l0 x9_1).f3), .int .i64 ((rd_T65 l0 x9_1).f4), .int .i64 ((rd_T65 l0 x9_1).f5), .int .i64 ((rd_T65 l0 x9_1).f6), .int .i64 0]) ?_ 7 _ rfl; (with_reducible repeat (first | refine blk_drewN ?_ _ | refine blk_drew ?_ | refine blk_alloc ?_ _)); refine blk_put (cs := #[.int .i64 ((rd_T65 l0 x9_1).f0), .int .i64 ((rd_T65 l0 x9_1).f1), .int .i64 ((rd_T65 l0 x9_1).f2), .int .i64 ((rd_T65 l0 x9_1).f3), .int .i64 ((rd_T65 l0 x9_1).f4), .int .i64 ((rd_T65 l0 x9_1).f5), .int .i64 0, .int .i64 0]) ?_ 6 _ rfl; (with_reducible repeat (first | refine blk_drewN ?_ _ | refine blk_drew ?_ | refine blk_alloc ?_ _)); refine blk_put (cs := #[.int .i64 ((rd_T65 l0 x9_1).f0), .int .i64 ((rd_T65 l0 x9_1).f1), .int .i64 ((rd_T65 l0 x9_1).f2), .int .i64 ((rd_T65 l0 x9_1).f3), .int .i64 ((rd_T65 l0 x9_1).f4), .int .i64 0, .int .i64 0, .int .i64 0]) ?_ 5 _ rfl; (with_reducible repeat (first | refine blk_drewN ?_ _ | refine blk_drew ?_ | refine blk_alloc ?_ _)); refine blk_put (cs := #[.int .i64 ((rd_T65 l0 x9_1).f0), .int .i64 ((rd_T65 l0 x9_1).f1), .int .i64 ((rd_T65 l0 x9_1).f2), .int .i64 ((rd_T65 l0 x9_1).f3), .int .i64 0, .int .i64 0, .int .i64 0, .int .i64 0]) ?_ 4 _ rfl; (with_reducible repeat (first | refine blk_drewN ?_ _ | refine blk_drew ?_ | refine blk_alloc ?_ _)); refine blk_put (cs := #[.int .i64 ((rd_T65 l0 x9_1).f0), .int .i64 ((rd_T65 l0 x9_1).f1), .int .i64 ((rd_T65 l0 x9_1).f2), .int .i64 0, .int .i64 0, .int .i64 0, .int .i64 0, .int .i64 0]) ?_ 3 _ rfl; (with_reducible repeat (first | refine blk_drewN ?_ _ | refine blk_drew ?_ | refine blk_alloc ?_ _)); refine blk_put (cs := #[.int .i64 ((rd_T65 l0 x9_1).f0), .int .i64 ((rd_T65 l0 x9_1).f1), .int .i64 0, .int .i64 0, .int .i64 0, .int .i64 0, .int .i64 0, .int .i64 0]) ?_ 2 _ rfl; (with_reducible repeat (first | refine blk_drewN ?_ _ | refine blk_drew ?_ | refine blk_alloc ?_ _)); refine blk_put (cs := #[.int .i64 ((rd_T65 l0 x9_1).f0), .int .i64 0, .int .i64 0, .int .i64 0, .int .i64 0, .int .i64 0, .int .i64 0, .int .i64 0]) ?_ 1 _ rfl; (with_reducible repeat (first | refine blk_drewN ?_ _ | refine blk_drew ?_ | refine blk_alloc ?_ _)); refine blk_put (cs := #[.int .i64 0, .int .i64 0, .int .i64 0, .int .i64 0, .int .i64 0, .int .i64 0, .int .i64 0, .int .i64 0]) ?_ 0 _ rfl; (with_reducible repeat (first | refine blk_drewN ?_ _ | refine blk_drew ?_ | refine blk_alloc ?_ _)); exact BK157.out) hg (Kd.R_away HO_4.out (fun _ hk => hk.2))); have n1_ := Aside0.mk (hb); have n2_ := Aside0.mk (ho); clear BK157; clear HB; clear HO_4; have BK157 := n0_; have HB := n1_; have HO160 := n2_; clear n0_ n1_ n2_; clear ho hb hg hat))
                go_roundg k1
                case measure => have := HK1.out; omega
                case rel => exact ⟨(y158), (wrap64 (x9_1 + 1)), (by first | rfl | (simp; done) | (simp [*]; done)), H', ⟨by have := HK1.out; omega⟩, ⟨by (with_reducible repeat (first | apply Kd.R_alloc | apply Kd.R_drewN | apply Kd.R_drew)); exact Kd.R_mono HO160.out (fun _ hk => trivial)⟩, ⟨by repeat (first | (with_reducible first | exact HB.out | apply below_alloc | apply pw_below_drewN | apply below_drew1 | refine below_set ?_ GE157.out) | exact HB.out)⟩⟩
              · rw [if_neg c7] at H
                exact absurd H (by simp)
            · rw [if_neg c6] at H
              have c6b0 : (((rd_T65 l0 x9_1).f1) == a1) = false := beq_eq_false_iff_ne.mpr c6
              have c6b1 : (((rd_T65 l0 x9_1).f1) != a1) = true := bne_iff_ne.mpr c6
              have H' := Aside0.mk H
              clear H
              have p156 : 0 ≤ (x9_1 : Int) := of_decide_eq_true (by first | (with_reducible assumption) | assumption)
              have q156 : x9_1 < (l0.length : Int) := of_decide_eq_true (by first | (with_reducible assumption) | assumption)
              obtain ⟨ad156, e156, hx156_0, hx156_1, hx156_2, hx156_3, hx156_4, hx156_5, hx156_6, hx156_7⟩ := at_T65 HR0.out x9_1 p156 q156
              cases e156
              replace hx156_0 := (HB.out.cell (World.block_lt_of_cell? w _ hx156_0)).trans hx156_0
              replace hx156_1 := (HB.out.cell (World.block_lt_of_cell? w _ hx156_1)).trans hx156_1
              replace hx156_2 := (HB.out.cell (World.block_lt_of_cell? w _ hx156_2)).trans hx156_2
              replace hx156_3 := (HB.out.cell (World.block_lt_of_cell? w _ hx156_3)).trans hx156_3
              replace hx156_4 := (HB.out.cell (World.block_lt_of_cell? w _ hx156_4)).trans hx156_4
              replace hx156_5 := (HB.out.cell (World.block_lt_of_cell? w _ hx156_5)).trans hx156_5
              replace hx156_6 := (HB.out.cell (World.block_lt_of_cell? w _ hx156_6)).trans hx156_6
              replace hx156_7 := (HB.out.cell (World.block_lt_of_cell? w _ hx156_7)).trans hx156_7
              replace p156 := eq_true p156
              replace q156 := eq_true q156
              go_wp2_with (first | ((with_reducible refine gate_dst (N := 6) rfl ?_); refine box_event ?hg (N := 6) ?hd (cs := #[.int .i64 0, .int .i64 0, .int .i64 0, .int .i64 0, .int .i64 0, .int .i64 0, .int .i64 0, .int .i64 0]) (t := 65) ?hr ?_; (case hd => rfl); (case hg => rfl); (case hr => first | (go_simp; done) | (go_simp; rfl)); intro gb157 hg w11 hbox hb; have n0_ := Aside0.mk (Kd.R_below (Kd.R_elderB (by (with_reducible repeat (first | apply Kd.R_alloc | apply Kd.R_drewN | apply Kd.R_drew)); exact HO_4.out) gb157 (Nat.le_of_eq hg.symm)) hb); have n1_ := Aside0.mk (below_step (by repeat (first | (with_reducible first | exact HB.out | apply below_alloc | apply pw_below_drewN | apply below_drew1) | exact HB.out)) hb); have n2_ := Aside0.mk (hbox); have n3_ := Aside0.mk ((by rw [hg]; exact (below_size (by repeat (first | (with_reducible first | exact HB.out | apply below_alloc | apply pw_below_drewN | apply below_drew1) | exact HB.out))) : w.heap.size ≤ gb157)); have n4_ := Aside0.mk ((by rw [hg]; exact (below_size (by repeat (first | (with_reducible first | exact HB.out | apply below_alloc | apply pw_below_drewN | apply below_drew1) | exact HB.out))) : w.heap.size ≤ gb157)); clear HO_4; clear HB; have HO_4 := n0_; have HB := n1_; have BK157 := n2_; have GW157 := n3_; have GE157 := n4_; clear n0_ n1_ n2_ n3_ n4_; clear hb hbox hg; have hcz12_0 : w11.cell? ⟨gb157, 0, none⟩ = some (.int .i64 0) := (blk_cell BK157.out 0).trans rfl; have hcz12_1 : w11.cell? ⟨gb157, 1, none⟩ = some (.int .i64 0) := (blk_cell BK157.out 1).trans rfl; have hcz12_2 : w11.cell? ⟨gb157, 2, none⟩ = some (.int .i64 0) := (blk_cell BK157.out 2).trans rfl; have hcz12_3 : w11.cell? ⟨gb157, 3, none⟩ = some (.int .i64 0) := (blk_cell BK157.out 3).trans rfl; have hcz12_4 : w11.cell? ⟨gb157, 4, none⟩ = some (.int .i64 0) := (blk_cell BK157.out 4).trans rfl; have hcz12_5 : w11.cell? ⟨gb157, 5, none⟩ = some (.int .i64 0) := (blk_cell BK157.out 5).trans rfl; have hcz12_6 : w11.cell? ⟨gb157, 6, none⟩ = some (.int .i64 0) := (blk_cell BK157.out 6).trans rfl; have hcz12_7 : w11.cell? ⟨gb157, 7, none⟩ = some (.int .i64 0) := (blk_cell BK157.out 7).trans rfl; have hfz12_0 := blk_frozen BK157.out 0; have hfz12_1 := blk_frozen BK157.out 1; have hfz12_2 := blk_frozen BK157.out 2; have hfz12_3 := blk_frozen BK157.out 3; have hfz12_4 := blk_frozen BK157.out 4; have hfz12_5 := blk_frozen BK157.out 5; have hfz12_6 := blk_frozen BK157.out 6; have hfz12_7 := blk_frozen BK157.out 7))
              go_roundg k1
              case measure => have := HK1.out; omega
              case rel => exact ⟨(x4_1), (wrap64 (x9_1 + 1)), (by first | rfl | (simp; done) | (simp [*]; done)), H', ⟨by have := HK1.out; omega⟩, ⟨by (with_reducible repeat (first | apply Kd.R_alloc | apply Kd.R_drewN | apply Kd.R_drew)); exact Kd.R_mono (Kd.R_far (p := ⟨gb157, 7, none⟩) (Kd.R_far (p := ⟨gb157, 6, none⟩) (Kd.R_far (p := ⟨gb157, 5, none⟩) (Kd.R_far (p := ⟨gb157, 4, none⟩) (Kd.R_far (p := ⟨gb157, 3, none⟩) (Kd.R_far (p := ⟨gb157, 2, none⟩) (Kd.R_far (p := ⟨gb157, 1, none⟩) (Kd.R_far (p := ⟨gb157, 0, none⟩) (Kd.R_mono HO_4.out (fun k_ hk => (⟨hk, hk.2⟩ : _ ∧ k_ ≠ gb157))) (fun _ hk => hk.2) (.int .i64 ((rd_T65 l0 x9_1).f0))) (fun _ hk => hk.2) (.int .i64 ((rd_T65 l0 x9_1).f1))) (fun _ hk => hk.2) (.int .i64 ((rd_T65 l0 x9_1).f2))) (fun _ hk => hk.2) (.int .i64 ((rd_T65 l0 x9_1).f3))) (fun _ hk => hk.2) (.int .i64 ((rd_T65 l0 x9_1).f4))) (fun _ hk => hk.2) (.int .i64 ((rd_T65 l0 x9_1).f5))) (fun _ hk => hk.2) (.int .i64 ((rd_T65 l0 x9_1).f6))) (fun _ hk => hk.2) (.int .i64 ((rd_T65 l0 x9_1).f7))) (fun _ hk => trivial)⟩, ⟨by repeat (first | (with_reducible first | exact HB.out | apply below_alloc | apply pw_below_drewN | apply below_drew1 | refine below_set ?_ GE157.out) | exact HB.out)⟩⟩
          · rw [if_neg c5] at H
            exact absurd H (by simp)
        · rw [if_neg c4] at H
          exact absurd H (by simp)
      · rw [if_neg c3] at H
        have c3b0 : decide (x9_1 < (l0.length : Int)) = false := decide_eq_false c3
        clear c3
        obtain rfl := Option.some.inj H
        go_wp2
        go_ret
        exact ⟨_, by first | rfl | (simp [errW_none, errW_some] <;> rfl) | (simp [*, errW_none, errW_some] <;> rfl), by (with_reducible repeat (first | apply Kd.R_alloc | apply Kd.R_drewN | apply Kd.R_drew)); exact HO_4.out, by repeat (first | (with_reducible first | exact HB.out | apply below_alloc | apply pw_below_drewN | apply below_drew1) | exact HB.out)⟩
def slices_Index_int_int.l0 : Nat → List Int → Int → Int → Int → Option (Int)
  | 0, _, _, _, _ => none
  | k + 1, x0, x1, x7, x8 => if x8 < x7 then (if 0 ≤ x8 then (if x8 < (x0.length : Int) then (if x1 = (rd x0 x8) then (some x8) else (slices_Index_int_int.l0 k x0 x1 x7 (wrap64 (x8 + 1)))) else (none)) else (none)) else (some (-1))
def slices_Index_int_int.f (k : Nat) (l0 : List Int) (a1 : Int) : Option (Int) := slices_Index_int_int.l0 k l0 a1 (l0.length : Int) 0
set_option maxHeartbeats 8000000 in
set_option maxRecDepth 100000 in
theorem slices_Index_int_int.calls (k : Nat) (A0 : Option Addr) (c0 : Nat) (l0 : List Int) (a1 : Int) (r : Int) (w : World) (hr0 : Kd.C (Kd.int .i64) w A0 l0.length l0) (hc0 : l0.length ≤ c0) (h : slices_Index_int_int.f k l0 a1 = some r) :
    Calls Try.prog 80 #[.slice A0 l0.length c0, .int .i64 a1] w fun e w' => e = .returned (.int .i64 r) ∧ Drawn0 w w' := by
  have HR0 := Aside0.mk hr0
  have HC0 := Aside0.mk hc0
  clear hr0 hc0
  have H : (slices_Index_int_int.l0 k l0 a1 (l0.length : Int) 0) = some r := h
  clear h
  have H' := Aside0.mk H
  clear H
  go_enter Try.func80, Try.ntmps80
  go_wp2
  go_loopg [8] k (fun kq v8 w' => ∃ (x8_1 : Int), v8 = .int .i64 x8_1 ∧ Aside0 (slices_Index_int_int.l0 kq l0 a1 (l0.length : Int) x8_1 = some r) ∧ Aside0 (kq ≤ k) ∧ Drawn0 w w')
  case atStart => exact ⟨(0), (by first | rfl | (simp; done) | (simp [*]; done)), H', ⟨Nat.le_refl _⟩, by repeat (first | exact Drawn0.refl _ | apply Drawn0.step)⟩
  case round =>
    clear H'
    try clear p2
    obtain ⟨x8_1, rfl, HA, HK1, ⟨m1, rfl⟩⟩ := hrel
    cases gk with
    | zero => exact absurd HA.out (by simp [slices_Index_int_int.l0])
    | succ k1 =>
      have H := HA.out
      clear HA
      simp only [slices_Index_int_int.l0] at H
      by_cases c3 : x8_1 < (l0.length : Int)
      · rw [if_pos c3] at H
        have c3b0 : decide (x8_1 < (l0.length : Int)) = true := decide_eq_true c3
        clear c3
        by_cases c4 : 0 ≤ x8_1
        · rw [if_pos c4] at H
          have c4b0 : decide (0 ≤ x8_1) = true := decide_eq_true c4
          clear c4
          by_cases c5 : x8_1 < (l0.length : Int)
          · rw [if_pos c5] at H
            have c5b0 : decide (x8_1 < (l0.length : Int)) = true := decide_eq_true c5
            clear c5
            by_cases c6 : a1 = (rd l0 x8_1)
            · rw [if_pos c6] at H
              have c6b0 : (a1 == (rd l0 x8_1)) = true := beq_iff_eq.mpr c6
              have c6b1 : (a1 != (rd l0 x8_1)) = false := bne_eq_false_iff_eq.mpr c6
              clear c6
              obtain rfl := Option.some.inj H
              have p165 : 0 ≤ (x8_1 : Int) := of_decide_eq_true (by first | (with_reducible assumption) | assumption)
              have q165 : x8_1 < (l0.length : Int) := of_decide_eq_true (by first | (with_reducible assumption) | assumption)
              obtain ⟨ad165, e165, hx165_0⟩ := Kd.at_int HR0.out x8_1 p165 q165
              cases e165
              replace p165 := eq_true p165
              replace q165 := eq_true q165
              go_wp2
              go_ret
              exact ⟨by first | rfl | (simp; done) | (simp [*]; done), by repeat (first | exact Drawn0.refl _ | apply Drawn0.step)⟩
            · rw [if_neg c6] at H
              have c6b0 : (a1 == (rd l0 x8_1)) = false := beq_eq_false_iff_ne.mpr c6
              have c6b1 : (a1 != (rd l0 x8_1)) = true := bne_iff_ne.mpr c6
              have H' := Aside0.mk H
              clear H
              have p165 : 0 ≤ (x8_1 : Int) := of_decide_eq_true (by first | (with_reducible assumption) | assumption)
              have q165 : x8_1 < (l0.length : Int) := of_decide_eq_true (by first | (with_reducible assumption) | assumption)
              obtain ⟨ad165, e165, hx165_0⟩ := Kd.at_int HR0.out x8_1 p165 q165
              cases e165
              replace p165 := eq_true p165
              replace q165 := eq_true q165
              go_wp2
              go_roundg k1
              case measure => have := HK1.out; omega
              case rel => exact ⟨(wrap64 (x8_1 + 1)), (by first | rfl | (simp; done) | (simp [*]; done)), H', ⟨by have := HK1.out; omega⟩, by repeat (first | exact Drawn0.refl _ | apply Drawn0.step)⟩
          · rw [if_neg c5] at H
            exact absurd H (by simp)
        · rw [if_neg c4] at H
          exact absurd H (by simp)
      · rw [if_neg c3] at H
        have c3b0 : decide (x8_1 < (l0.length : Int)) = false := decide_eq_false c3
        clear c3
        obtain rfl := Option.some.inj H
        go_wp2
        go_ret
        exact ⟨by first | rfl | (simp; done) | (simp [*]; done), by repeat (first | exact Drawn0.refl _ | apply Drawn0.step)⟩
def slices_Contains_int_int.f (k : Nat) (l0 : List Int) (a1 : Int) : Option (Bool) := (slices_Index_int_int.f k l0 a1).bind fun t166 => (some (decide (t166 ≥ 0)))
set_option maxHeartbeats 8000000 in
set_option maxRecDepth 100000 in
theorem slices_Contains_int_int.calls (k : Nat) (A0 : Option Addr) (c0 : Nat) (l0 : List Int) (a1 : Int) (r : Bool) (w : World) (hr0 : Kd.C (Kd.int .i64) w A0 l0.length l0) (hc0 : l0.length ≤ c0) (h : slices_Contains_int_int.f k l0 a1 = some r) :
    Calls Try.prog 56 #[.slice A0 l0.length c0, .int .i64 a1] w fun e w' => e = .returned (.bool r) ∧ Drawn0 w w' := by
  have HR0 := Aside0.mk hr0
  have HC0 := Aside0.mk hc0
  clear hr0 hc0
  have H : ((slices_Index_int_int.f k l0 a1).bind fun t166 => (some (decide (t166 ≥ 0)))) = some r := h
  clear h
  replace H := Option.bind_eq_some_iff.mp H
  obtain ⟨t166, A30, H⟩ := H
  replace H : (some (decide (t166 ≥ 0))) = some r := H
  have A3 := Aside0.mk A30
  clear A30
  obtain rfl := Option.some.inj H
  go_enter Try.func56, Try.ntmps56
  go_wp2_with (first | ((with_reducible refine gate_callee (f := 80) rfl ?_); refine goesL_ (some 7) rfl rfl Try.func80 (by kernel_rfl) rfl #[.slice A0 l0.length c0, .int .i64 a1] rfl (by (try simp only [List.map_toArray, List.map_cons, List.map_nil]); first | done | rfl | (simp only [List.length_drop, List.length_take]; rfl)) ?_; (with_reducible refine (slices_Index_int_int.calls k _ _ l0 a1 t166 _ ?side1 ?side2 A3.out).mono ?_); (case side1 => repeat (first | exact HR0.out | (with_reducible refine Kd.C_alloc ?_ _) | (with_reducible refine Kd.C_drewN ?_ _) | (with_reducible refine Kd.C_drew ?_))); (case side2 => exact HC0.out); rintro e w' ⟨rfl, ⟨nd, rfl⟩⟩; refine ⟨_, rfl, ?_⟩))
  go_ret
  exact ⟨by first | rfl | (simp; done) | (simp [*]; done), by repeat (first | exact Drawn0.refl _ | apply Drawn0.step)⟩
def hop_Latest.f (k : Nat) (a0_0 : Int) (a0_1 : Int) (a0_2 : Int) (a0_3 : Int) (a0_4 : Int) (a0_5 : Int) (a0_6 : Int) (a0_7 : Int) (a1 : Int) (a2 : Int) : Option (Int × Bool) := (hop_Takes.f k a0_0 a0_1 a0_2 a0_3 a0_4 a0_5 a0_6 a0_7 a2).bind fun t168 => ((hop_right.f k a0_0 a0_1 a0_2 a0_3 a0_4 a0_5 a0_6 a0_7 a1 a2).bind fun t169 => (if t169 = true then (if a2 > a0_7 then (some (0, false)) else (if (mn (wrap64 (a0_4 - (mx t168 1))) (wrap64 ((wrap64 (a1 - t168)) - a0_6))) < a0_3 then (some (0, false)) else (some (mn (wrap64 (a0_4 - (mx t168 1))) (wrap64 ((wrap64 (a1 - t168)) - a0_6)), true)))) else (some (0, false))))
set_option maxHeartbeats 8000000 in
set_option maxRecDepth 100000 in
theorem hop_Latest.calls (k : Nat) (a0_0 : Int) (a0_1 : Int) (a0_2 : Int) (a0_3 : Int) (a0_4 : Int) (a0_5 : Int) (a0_6 : Int) (a0_7 : Int) (a1 : Int) (a2 : Int) (r1 : Int) (r2 : Bool) (w : World) (h : hop_Latest.f k a0_0 a0_1 a0_2 a0_3 a0_4 a0_5 a0_6 a0_7 a1 a2 = some (r1, r2)) :
    Calls Try.prog 78 #[.agg #[.int .i64 a0_0, .int .i64 a0_1, .int .i64 a0_2, .int .i64 a0_3, .int .i64 a0_4, .int .i64 a0_5, .int .i64 a0_6, .int .i64 a0_7], .int .i64 a1, .int .i64 a2] w fun e w' => e = .returned (.tuple #[.int .i64 r1, .bool r2]) ∧ Below w.heap.size w w' := by
  have hu65 := Try.underlying65
  have HB := Aside0.mk (Below.refl w.heap.size w)
  have H : ((hop_Takes.f k a0_0 a0_1 a0_2 a0_3 a0_4 a0_5 a0_6 a0_7 a2).bind fun t168 => ((hop_right.f k a0_0 a0_1 a0_2 a0_3 a0_4 a0_5 a0_6 a0_7 a1 a2).bind fun t169 => (if t169 = true then (if a2 > a0_7 then (some (0, false)) else (if (mn (wrap64 (a0_4 - (mx t168 1))) (wrap64 ((wrap64 (a1 - t168)) - a0_6))) < a0_3 then (some (0, false)) else (some (mn (wrap64 (a0_4 - (mx t168 1))) (wrap64 ((wrap64 (a1 - t168)) - a0_6)), true)))) else (some (0, false))))) = some (r1, r2) := h
  clear h
  replace H := Option.bind_eq_some_iff.mp H
  obtain ⟨t168, A40, H⟩ := H
  replace H : ((hop_right.f k a0_0 a0_1 a0_2 a0_3 a0_4 a0_5 a0_6 a0_7 a1 a2).bind fun t169 => (if t169 = true then (if a2 > a0_7 then (some (0, false)) else (if (mn (wrap64 (a0_4 - (mx t168 1))) (wrap64 ((wrap64 (a1 - t168)) - a0_6))) < a0_3 then (some (0, false)) else (some (mn (wrap64 (a0_4 - (mx t168 1))) (wrap64 ((wrap64 (a1 - t168)) - a0_6)), true)))) else (some (0, false)))) = some (r1, r2) := H
  have A4 := Aside0.mk A40
  clear A40
  obtain ⟨ji5, hji5⟩ : ∃ j_ : Int, (mx t168 1) = j_ := ⟨_, rfl⟩
  replace H : ((hop_right.f k a0_0 a0_1 a0_2 a0_3 a0_4 a0_5 a0_6 a0_7 a1 a2).bind fun t169 => (if t169 = true then (if a2 > a0_7 then (some (0, false)) else (if (mn (wrap64 (a0_4 - (ji5))) (wrap64 ((wrap64 (a1 - t168)) - a0_6))) < a0_3 then (some (0, false)) else (some (mn (wrap64 (a0_4 - (ji5))) (wrap64 ((wrap64 (a1 - t168)) - a0_6)), true)))) else (some (0, false)))) = some (r1, r2) := by first | (rw [hji5] at H; exact H) | (simp only [hji5] at H ⊢; exact H)
  (try rw [hji5] at A4)
  (try (have hji5l : 1 ≤ ji5 := by (rw [← hji5]; unfold mx; (repeat' split) <;> omega)))
  (try (have hji5m : 0 ≤ ji5 := by omega))
  have hji5_ : (if t168 < 1 then 1 else t168) = ji5 := hji5
  obtain ⟨ji6, hji6⟩ : ∃ j_ : Int, (mn (wrap64 (a0_4 - (ji5))) (wrap64 ((wrap64 (a1 - t168)) - a0_6))) = j_ := ⟨_, rfl⟩
  replace H : ((hop_right.f k a0_0 a0_1 a0_2 a0_3 a0_4 a0_5 a0_6 a0_7 a1 a2).bind fun t169 => (if t169 = true then (if a2 > a0_7 then (some (0, false)) else (if (ji6) < a0_3 then (some (0, false)) else (some (ji6, true)))) else (some (0, false)))) = some (r1, r2) := by first | (rw [hji6] at H; exact H) | (simp only [hji6] at H ⊢; exact H)
  (try rw [hji6] at A4)
  have hji6_ : (if (wrap64 ((wrap64 (a1 - t168)) - a0_6)) < (wrap64 (a0_4 - (ji5))) then (wrap64 ((wrap64 (a1 - t168)) - a0_6)) else (wrap64 (a0_4 - (ji5)))) = ji6 := hji6
  replace H := Option.bind_eq_some_iff.mp H
  obtain ⟨t169, A70, H⟩ := H
  replace H : (if t169 = true then (if a2 > a0_7 then (some (0, false)) else (if (ji6) < a0_3 then (some (0, false)) else (some (ji6, true)))) else (some (0, false))) = some (r1, r2) := H
  have A7 := Aside0.mk A70
  clear A70
  by_cases c8 : t169 = true
  · subst c8
    have H1 : (if a2 > a0_7 then (some (0, false)) else (if (ji6) < a0_3 then (some (0, false)) else (some (ji6, true)))) = some (r1, r2) := by rw [if_pos rfl] at H; exact H
    clear H
    have H := H1
    clear H1
    by_cases c9 : a2 > a0_7
    · rw [if_pos c9] at H
      have c9b0 : decide (a0_7 < a2) = true := decide_eq_true c9
      clear c9
      simp only [Option.some.injEq, Prod.mk.injEq] at H
      obtain ⟨rfl, rfl⟩ := H
      go_enter Try.func78, Try.ntmps78
      go_wp2_with (first | ((with_reducible refine gate_dst (N := 3) rfl ?_); refine box_event ?hg (N := 3) ?hd (cs := #[.int .i64 a0_0, .int .i64 a0_1, .int .i64 a0_2, .int .i64 a0_3, .int .i64 a0_4, .int .i64 a0_5, .int .i64 a0_6, .int .i64 a0_7]) (t := 65) ?hr ?_; (case hd => rfl); (case hg => rfl); (case hr => first | (go_simp; done) | (go_simp; rfl)); intro gb167 hg w10 hbox hb; have n0_ := Aside0.mk (below_step (by repeat (first | (with_reducible first | exact HB.out | apply below_alloc | apply pw_below_drewN | apply below_drew1) | exact HB.out)) hb); have n1_ := Aside0.mk (hbox); have n2_ := Aside0.mk ((by rw [hg]; exact (below_size (by repeat (first | (with_reducible first | exact HB.out | apply below_alloc | apply pw_below_drewN | apply below_drew1) | exact HB.out))) : w.heap.size ≤ gb167)); have n3_ := Aside0.mk ((by rw [hg]; exact (below_size (by repeat (first | (with_reducible first | exact HB.out | apply below_alloc | apply pw_below_drewN | apply below_drew1) | exact HB.out))) : w.heap.size ≤ gb167)); clear HB; have HB := n0_; have BK167 := n1_; have GW167 := n2_; have GE167 := n3_; clear n0_ n1_ n2_ n3_; clear hb hbox hg; have hcz11_0 : w10.cell? ⟨gb167, 0, none⟩ = some (.int .i64 a0_0) := (blk_cell BK167.out 0).trans rfl; have hcz11_1 : w10.cell? ⟨gb167, 1, none⟩ = some (.int .i64 a0_1) := (blk_cell BK167.out 1).trans rfl; have hcz11_2 : w10.cell? ⟨gb167, 2, none⟩ = some (.int .i64 a0_2) := (blk_cell BK167.out 2).trans rfl; have hcz11_3 : w10.cell? ⟨gb167, 3, none⟩ = some (.int .i64 a0_3) := (blk_cell BK167.out 3).trans rfl; have hcz11_4 : w10.cell? ⟨gb167, 4, none⟩ = some (.int .i64 a0_4) := (blk_cell BK167.out 4).trans rfl; have hcz11_5 : w10.cell? ⟨gb167, 5, none⟩ = some (.int .i64 a0_5) := (blk_cell BK167.out 5).trans rfl; have hcz11_6 : w10.cell? ⟨gb167, 6, none⟩ = some (.int .i64 a0_6) := (blk_cell BK167.out 6).trans rfl; have hcz11_7 : w10.cell? ⟨gb167, 7, none⟩ = some (.int .i64 a0_7) := (blk_cell BK167.out 7).trans rfl; have hfz11_0 := blk_frozen BK167.out 0; have hfz11_1 := blk_frozen BK167.out 1; have hfz11_2 := blk_frozen BK167.out 2; have hfz11_3 := blk_frozen BK167.out 3; have hfz11_4 := blk_frozen BK167.out 4; have hfz11_5 := blk_frozen BK167.out 5; have hfz11_6 := blk_frozen BK167.out 6; have hfz11_7 := blk_frozen BK167.out 7) | ((with_reducible refine gate_callee (f := 72) rfl ?_); refine goesL_ (some 12) rfl rfl Try.func72 (by kernel_rfl) rfl #[.agg #[.int .i64 a0_0, .int .i64 a0_1, .int .i64 a0_2, .int .i64 a0_3, .int .i64 a0_4, .int .i64 a0_5, .int .i64 a0_6, .int .i64 a0_7], .int .i64 a2] rfl (by (try simp only [List.map_toArray, List.map_cons, List.map_nil]); first | done | rfl | (simp only [List.length_drop, List.length_take]; rfl)) ?_; (with_reducible refine (hop_Takes.calls k a0_0 a0_1 a0_2 a0_3 a0_4 a0_5 a0_6 a0_7 a2 t168 _ A4.out).mono ?_); rintro e w12 ⟨rfl, hb⟩; refine ⟨_, rfl, ?_⟩; have n0_ := Aside0.mk (blk_below (g := gb167) (o := .cells #[.int .i64 a0_0, .int .i64 a0_1, .int .i64 a0_2, .int .i64 a0_3, .int .i64 a0_4, .int .i64 a0_5, .int .i64 a0_6, .int .i64 a0_7] 65 (0, 0)) (by (with_reducible repeat (first | refine blk_drewN ?_ _ | refine blk_drew ?_ | refine blk_alloc ?_ _)); exact BK167.out) hb); have n1_ := Aside0.mk (below_step (by repeat (first | (with_reducible first | exact HB.out | apply below_alloc | apply pw_below_drewN | apply below_drew1 | refine below_set ?_ GE167.out) | exact HB.out)) hb); clear BK167; clear HB; have BK167 := n0_; have HB := n1_; clear n0_ n1_; (try clear hb); (try clear hb2); (try clear hk); (try clear hi); have hcz13_0 : w12.cell? ⟨gb167, 0, none⟩ = some (.int .i64 a0_0) := (blk_cell BK167.out 0).trans rfl; have hcz13_1 : w12.cell? ⟨gb167, 1, none⟩ = some (.int .i64 a0_1) := (blk_cell BK167.out 1).trans rfl; have hcz13_2 : w12.cell? ⟨gb167, 2, none⟩ = some (.int .i64 a0_2) := (blk_cell BK167.out 2).trans rfl; have hcz13_3 : w12.cell? ⟨gb167, 3, none⟩ = some (.int .i64 a0_3) := (blk_cell BK167.out 3).trans rfl; have hcz13_4 : w12.cell? ⟨gb167, 4, none⟩ = some (.int .i64 a0_4) := (blk_cell BK167.out 4).trans rfl; have hcz13_5 : w12.cell? ⟨gb167, 5, none⟩ = some (.int .i64 a0_5) := (blk_cell BK167.out 5).trans rfl; have hcz13_6 : w12.cell? ⟨gb167, 6, none⟩ = some (.int .i64 a0_6) := (blk_cell BK167.out 6).trans rfl; have hcz13_7 : w12.cell? ⟨gb167, 7, none⟩ = some (.int .i64 a0_7) := (blk_cell BK167.out 7).trans rfl; have hfz13_0 := blk_frozen BK167.out 0; have hfz13_1 := blk_frozen BK167.out 1; have hfz13_2 := blk_frozen BK167.out 2; have hfz13_3 := blk_frozen BK167.out 3; have hfz13_4 := blk_frozen BK167.out 4; have hfz13_5 := blk_frozen BK167.out 5; have hfz13_6 := blk_frozen BK167.out 6; have hfz13_7 := blk_frozen BK167.out 7) | ((with_reducible refine gate_callee (f := 73) rfl ?_); refine goesL_ (some 28) rfl rfl Try.func73 (by kernel_rfl) rfl #[.agg #[.int .i64 a0_0, .int .i64 a0_1, .int .i64 a0_2, .int .i64 a0_3, .int .i64 a0_4, .int .i64 a0_5, .int .i64 a0_6, .int .i64 a0_7], .int .i64 a1, .int .i64 a2] rfl (by (try simp only [List.map_toArray, List.map_cons, List.map_nil]); first | done | rfl | (simp only [List.length_drop, List.length_take]; rfl)) ?_; (with_reducible refine (hop_right.calls k a0_0 a0_1 a0_2 a0_3 a0_4 a0_5 a0_6 a0_7 a1 a2 true _ A7.out).mono ?_); rintro e w14 ⟨rfl, hb⟩; refine ⟨_, rfl, ?_⟩; have n0_ := Aside0.mk (blk_below (g := gb167) (o := .cells #[.int .i64 a0_0, .int .i64 a0_1, .int .i64 a0_2, .int .i64 a0_3, .int .i64 a0_4, .int .i64 a0_5, .int .i64 a0_6, .int .i64 a0_7] 65 (0, 0)) (by (with_reducible repeat (first | refine blk_drewN ?_ _ | refine blk_drew ?_ | refine blk_alloc ?_ _)); exact BK167.out) hb); have n1_ := Aside0.mk (below_step (by repeat (first | (with_reducible first | exact HB.out | apply below_alloc | apply pw_below_drewN | apply below_drew1 | refine below_set ?_ GE167.out) | exact HB.out)) hb); clear BK167; clear HB; have BK167 := n0_; have HB := n1_; clear n0_ n1_; (try clear hb); (try clear hb2); (try clear hk); (try clear hi); have hcz15_0 : w14.cell? ⟨gb167, 0, none⟩ = some (.int .i64 a0_0) := (blk_cell BK167.out 0).trans rfl; have hcz15_1 : w14.cell? ⟨gb167, 1, none⟩ = some (.int .i64 a0_1) := (blk_cell BK167.out 1).trans rfl; have hcz15_2 : w14.cell? ⟨gb167, 2, none⟩ = some (.int .i64 a0_2) := (blk_cell BK167.out 2).trans rfl; have hcz15_3 : w14.cell? ⟨gb167, 3, none⟩ = some (.int .i64 a0_3) := (blk_cell BK167.out 3).trans rfl; have hcz15_4 : w14.cell? ⟨gb167, 4, none⟩ = some (.int .i64 a0_4) := (blk_cell BK167.out 4).trans rfl; have hcz15_5 : w14.cell? ⟨gb167, 5, none⟩ = some (.int .i64 a0_5) := (blk_cell BK167.out 5).trans rfl; have hcz15_6 : w14.cell? ⟨gb167, 6, none⟩ = some (.int .i64 a0_6) := (blk_cell BK167.out 6).trans rfl; have hcz15_7 : w14.cell? ⟨gb167, 7, none⟩ = some (.int .i64 a0_7) := (blk_cell BK167.out 7).trans rfl; have hfz15_0 := blk_frozen BK167.out 0; have hfz15_1 := blk_frozen BK167.out 1; have hfz15_2 := blk_frozen BK167.out 2; have hfz15_3 := blk_frozen BK167.out 3; have hfz15_4 := blk_frozen BK167.out 4; have hfz15_5 := blk_frozen BK167.out 5; have hfz15_6 := blk_frozen BK167.out 6; have hfz15_7 := blk_frozen BK167.out 7))
      go_ret2
      exact ⟨by first | rfl | (simp [errW_none, errW_some] <;> rfl) | (simp only [← hji5, ← hji6]; first | rfl | (simp [errW_none, errW_some] <;> rfl)) | (simp [*, errW_none, errW_some] <;> rfl), by repeat (first | (with_reducible first | exact HB.out | apply below_alloc | apply pw_below_drewN | apply below_drew1 | refine below_set ?_ GE167.out) | exact HB.out)⟩
    · rw [if_neg c9] at H
      have c9b0 : decide (a0_7 < a2) = false := decide_eq_false c9
      clear c9
      by_cases c16 : (ji6) < a0_3
      · rw [if_pos c16] at H
        have c16b0 : decide ((ji6) < a0_3) = true := decide_eq_true c16
        clear c16
        simp only [Option.some.injEq, Prod.mk.injEq] at H
        obtain ⟨rfl, rfl⟩ := H
        go_enter Try.func78, Try.ntmps78
        go_wp2_with (first | ((with_reducible refine gate_dst (N := 3) rfl ?_); refine box_event ?hg (N := 3) ?hd (cs := #[.int .i64 a0_0, .int .i64 a0_1, .int .i64 a0_2, .int .i64 a0_3, .int .i64 a0_4, .int .i64 a0_5, .int .i64 a0_6, .int .i64 a0_7]) (t := 65) ?hr ?_; (case hd => rfl); (case hg => rfl); (case hr => first | (go_simp; done) | (go_simp; rfl)); intro gb167 hg w17 hbox hb; have n0_ := Aside0.mk (below_step (by repeat (first | (with_reducible first | exact HB.out | apply below_alloc | apply pw_below_drewN | apply below_drew1) | exact HB.out)) hb); have n1_ := Aside0.mk (hbox); have n2_ := Aside0.mk ((by rw [hg]; exact (below_size (by repeat (first | (with_reducible first | exact HB.out | apply below_alloc | apply pw_below_drewN | apply below_drew1) | exact HB.out))) : w.heap.size ≤ gb167)); have n3_ := Aside0.mk ((by rw [hg]; exact (below_size (by repeat (first | (with_reducible first | exact HB.out | apply below_alloc | apply pw_below_drewN | apply below_drew1) | exact HB.out))) : w.heap.size ≤ gb167)); clear HB; have HB := n0_; have BK167 := n1_; have GW167 := n2_; have GE167 := n3_; clear n0_ n1_ n2_ n3_; clear hb hbox hg; have hcz18_0 : w17.cell? ⟨gb167, 0, none⟩ = some (.int .i64 a0_0) := (blk_cell BK167.out 0).trans rfl; have hcz18_1 : w17.cell? ⟨gb167, 1, none⟩ = some (.int .i64 a0_1) := (blk_cell BK167.out 1).trans rfl; have hcz18_2 : w17.cell? ⟨gb167, 2, none⟩ = some (.int .i64 a0_2) := (blk_cell BK167.out 2).trans rfl; have hcz18_3 : w17.cell? ⟨gb167, 3, none⟩ = some (.int .i64 a0_3) := (blk_cell BK167.out 3).trans rfl; have hcz18_4 : w17.cell? ⟨gb167, 4, none⟩ = some (.int .i64 a0_4) := (blk_cell BK167.out 4).trans rfl; have hcz18_5 : w17.cell? ⟨gb167, 5, none⟩ = some (.int .i64 a0_5) := (blk_cell BK167.out 5).trans rfl; have hcz18_6 : w17.cell? ⟨gb167, 6, none⟩ = some (.int .i64 a0_6) := (blk_cell BK167.out 6).trans rfl; have hcz18_7 : w17.cell? ⟨gb167, 7, none⟩ = some (.int .i64 a0_7) := (blk_cell BK167.out 7).trans rfl; have hfz18_0 := blk_frozen BK167.out 0; have hfz18_1 := blk_frozen BK167.out 1; have hfz18_2 := blk_frozen BK167.out 2; have hfz18_3 := blk_frozen BK167.out 3; have hfz18_4 := blk_frozen BK167.out 4; have hfz18_5 := blk_frozen BK167.out 5; have hfz18_6 := blk_frozen BK167.out 6; have hfz18_7 := blk_frozen BK167.out 7) | ((with_reducible refine gate_callee (f := 72) rfl ?_); refine goesL_ (some 12) rfl rfl Try.func72 (by kernel_rfl) rfl #[.agg #[.int .i64 a0_0, .int .i64 a0_1, .int .i64 a0_2, .int .i64 a0_3, .int .i64 a0_4, .int .i64 a0_5, .int .i64 a0_6, .int .i64 a0_7], .int .i64 a2] rfl (by (try simp only [List.map_toArray, List.map_cons, List.map_nil]); first | done | rfl | (simp only [List.length_drop, List.length_take]; rfl)) ?_; (with_reducible refine (hop_Takes.calls k a0_0 a0_1 a0_2 a0_3 a0_4 a0_5 a0_6 a0_7 a2 t168 _ A4.out).mono ?_); rintro e w19 ⟨rfl, hb⟩; refine ⟨_, rfl, ?_⟩; have n0_ := Aside0.mk (blk_below (g := gb167) (o := .cells #[.int .i64 a0_0, .int .i64 a0_1, .int .i64 a0_2, .int .i64 a0_3, .int .i64 a0_4, .int .i64 a0_5, .int .i64 a0_6, .int .i64 a0_7] 65 (0, 0)) (by (with_reducible repeat (first | refine blk_drewN ?_ _ | refine blk_drew ?_ | refine blk_alloc ?_ _)); exact BK167.out) hb); have n1_ := Aside0.mk (below_step (by repeat (first | (with_reducible first | exact HB.out | apply below_alloc | apply pw_below_drewN | apply below_drew1 | refine below_set ?_ GE167.out) | exact HB.out)) hb); clear BK167; clear HB; have BK167 := n0_; have HB := n1_; clear n0_ n1_; (try clear hb); (try clear hb2); (try clear hk); (try clear hi); have hcz20_0 : w19.cell? ⟨gb167, 0, none⟩ = some (.int .i64 a0_0) := (blk_cell BK167.out 0).trans rfl; have hcz20_1 : w19.cell? ⟨gb167, 1, none⟩ = some (.int .i64 a0_1) := (blk_cell BK167.out 1).trans rfl; have hcz20_2 : w19.cell? ⟨gb167, 2, none⟩ = some (.int .i64 a0_2) := (blk_cell BK167.out 2).trans rfl; have hcz20_3 : w19.cell? ⟨gb167, 3, none⟩ = some (.int .i64 a0_3) := (blk_cell BK167.out 3).trans rfl; have hcz20_4 : w19.cell? ⟨gb167, 4, none⟩ = some (.int .i64 a0_4) := (blk_cell BK167.out 4).trans rfl; have hcz20_5 : w19.cell? ⟨gb167, 5, none⟩ = some (.int .i64 a0_5) := (blk_cell BK167.out 5).trans rfl; have hcz20_6 : w19.cell? ⟨gb167, 6, none⟩ = some (.int .i64 a0_6) := (blk_cell BK167.out 6).trans rfl; have hcz20_7 : w19.cell? ⟨gb167, 7, none⟩ = some (.int .i64 a0_7) := (blk_cell BK167.out 7).trans rfl; have hfz20_0 := blk_frozen BK167.out 0; have hfz20_1 := blk_frozen BK167.out 1; have hfz20_2 := blk_frozen BK167.out 2; have hfz20_3 := blk_frozen BK167.out 3; have hfz20_4 := blk_frozen BK167.out 4; have hfz20_5 := blk_frozen BK167.out 5; have hfz20_6 := blk_frozen BK167.out 6; have hfz20_7 := blk_frozen BK167.out 7) | ((with_reducible refine gate_callee (f := 73) rfl ?_); refine goesL_ (some 28) rfl rfl Try.func73 (by kernel_rfl) rfl #[.agg #[.int .i64 a0_0, .int .i64 a0_1, .int .i64 a0_2, .int .i64 a0_3, .int .i64 a0_4, .int .i64 a0_5, .int .i64 a0_6, .int .i64 a0_7], .int .i64 a1, .int .i64 a2] rfl (by (try simp only [List.map_toArray, List.map_cons, List.map_nil]); first | done | rfl | (simp only [List.length_drop, List.length_take]; rfl)) ?_; (with_reducible refine (hop_right.calls k a0_0 a0_1 a0_2 a0_3 a0_4 a0_5 a0_6 a0_7 a1 a2 true _ A7.out).mono ?_); rintro e w21 ⟨rfl, hb⟩; refine ⟨_, rfl, ?_⟩; have n0_ := Aside0.mk (blk_below (g := gb167) (o := .cells #[.int .i64 a0_0, .int .i64 a0_1, .int .i64 a0_2, .int .i64 a0_3, .int .i64 a0_4, .int .i64 a0_5, .int .i64 a0_6, .int .i64 a0_7] 65 (0, 0)) (by (with_reducible repeat (first | refine blk_drewN ?_ _ | refine blk_drew ?_ | refine blk_alloc ?_ _)); exact BK167.out) hb); have n1_ := Aside0.mk (below_step (by repeat (first | (with_reducible first | exact HB.out | apply below_alloc | apply pw_below_drewN | apply below_drew1 | refine below_set ?_ GE167.out) | exact HB.out)) hb); clear BK167; clear HB; have BK167 := n0_; have HB := n1_; clear n0_ n1_; (try clear hb); (try clear hb2); (try clear hk); (try clear hi); have hcz22_0 : w21.cell? ⟨gb167, 0, none⟩ = some (.int .i64 a0_0) := (blk_cell BK167.out 0).trans rfl; have hcz22_1 : w21.cell? ⟨gb167, 1, none⟩ = some (.int .i64 a0_1) := (blk_cell BK167.out 1).trans rfl; have hcz22_2 : w21.cell? ⟨gb167, 2, none⟩ = some (.int .i64 a0_2) := (blk_cell BK167.out 2).trans rfl; have hcz22_3 : w21.cell? ⟨gb167, 3, none⟩ = some (.int .i64 a0_3) := (blk_cell BK167.out 3).trans rfl; have hcz22_4 : w21.cell? ⟨gb167, 4, none⟩ = some (.int .i64 a0_4) := (blk_cell BK167.out 4).trans rfl; have hcz22_5 : w21.cell? ⟨gb167, 5, none⟩ = some (.int .i64 a0_5) := (blk_cell BK167.out 5).trans rfl; have hcz22_6 : w21.cell? ⟨gb167, 6, none⟩ = some (.int .i64 a0_6) := (blk_cell BK167.out 6).trans rfl; have hcz22_7 : w21.cell? ⟨gb167, 7, none⟩ = some (.int .i64 a0_7) := (blk_cell BK167.out 7).trans rfl; have hfz22_0 := blk_frozen BK167.out 0; have hfz22_1 := blk_frozen BK167.out 1; have hfz22_2 := blk_frozen BK167.out 2; have hfz22_3 := blk_frozen BK167.out 3; have hfz22_4 := blk_frozen BK167.out 4; have hfz22_5 := blk_frozen BK167.out 5; have hfz22_6 := blk_frozen BK167.out 6; have hfz22_7 := blk_frozen BK167.out 7))
        go_ret2
        exact ⟨by first | rfl | (simp [errW_none, errW_some] <;> rfl) | (simp only [← hji5, ← hji6]; first | rfl | (simp [errW_none, errW_some] <;> rfl)) | (simp [*, errW_none, errW_some] <;> rfl), by repeat (first | (with_reducible first | exact HB.out | apply below_alloc | apply pw_below_drewN | apply below_drew1 | refine below_set ?_ GE167.out) | exact HB.out)⟩
      · rw [if_neg c16] at H
        have c16b0 : decide ((ji6) < a0_3) = false := decide_eq_false c16
        clear c16
        simp only [Option.some.injEq, Prod.mk.injEq] at H
        obtain ⟨rfl, rfl⟩ := H
        go_enter Try.func78, Try.ntmps78
        go_wp2_with (first | ((with_reducible refine gate_dst (N := 3) rfl ?_); refine box_event ?hg (N := 3) ?hd (cs := #[.int .i64 a0_0, .int .i64 a0_1, .int .i64 a0_2, .int .i64 a0_3, .int .i64 a0_4, .int .i64 a0_5, .int .i64 a0_6, .int .i64 a0_7]) (t := 65) ?hr ?_; (case hd => rfl); (case hg => rfl); (case hr => first | (go_simp; done) | (go_simp; rfl)); intro gb167 hg w23 hbox hb; have n0_ := Aside0.mk (below_step (by repeat (first | (with_reducible first | exact HB.out | apply below_alloc | apply pw_below_drewN | apply below_drew1) | exact HB.out)) hb); have n1_ := Aside0.mk (hbox); have n2_ := Aside0.mk ((by rw [hg]; exact (below_size (by repeat (first | (with_reducible first | exact HB.out | apply below_alloc | apply pw_below_drewN | apply below_drew1) | exact HB.out))) : w.heap.size ≤ gb167)); have n3_ := Aside0.mk ((by rw [hg]; exact (below_size (by repeat (first | (with_reducible first | exact HB.out | apply below_alloc | apply pw_below_drewN | apply below_drew1) | exact HB.out))) : w.heap.size ≤ gb167)); clear HB; have HB := n0_; have BK167 := n1_; have GW167 := n2_; have GE167 := n3_; clear n0_ n1_ n2_ n3_; clear hb hbox hg; have hcz24_0 : w23.cell? ⟨gb167, 0, none⟩ = some (.int .i64 a0_0) := (blk_cell BK167.out 0).trans rfl; have hcz24_1 : w23.cell? ⟨gb167, 1, none⟩ = some (.int .i64 a0_1) := (blk_cell BK167.out 1).trans rfl; have hcz24_2 : w23.cell? ⟨gb167, 2, none⟩ = some (.int .i64 a0_2) := (blk_cell BK167.out 2).trans rfl; have hcz24_3 : w23.cell? ⟨gb167, 3, none⟩ = some (.int .i64 a0_3) := (blk_cell BK167.out 3).trans rfl; have hcz24_4 : w23.cell? ⟨gb167, 4, none⟩ = some (.int .i64 a0_4) := (blk_cell BK167.out 4).trans rfl; have hcz24_5 : w23.cell? ⟨gb167, 5, none⟩ = some (.int .i64 a0_5) := (blk_cell BK167.out 5).trans rfl; have hcz24_6 : w23.cell? ⟨gb167, 6, none⟩ = some (.int .i64 a0_6) := (blk_cell BK167.out 6).trans rfl; have hcz24_7 : w23.cell? ⟨gb167, 7, none⟩ = some (.int .i64 a0_7) := (blk_cell BK167.out 7).trans rfl; have hfz24_0 := blk_frozen BK167.out 0; have hfz24_1 := blk_frozen BK167.out 1; have hfz24_2 := blk_frozen BK167.out 2; have hfz24_3 := blk_frozen BK167.out 3; have hfz24_4 := blk_frozen BK167.out 4; have hfz24_5 := blk_frozen BK167.out 5; have hfz24_6 := blk_frozen BK167.out 6; have hfz24_7 := blk_frozen BK167.out 7) | ((with_reducible refine gate_callee (f := 72) rfl ?_); refine goesL_ (some 12) rfl rfl Try.func72 (by kernel_rfl) rfl #[.agg #[.int .i64 a0_0, .int .i64 a0_1, .int .i64 a0_2, .int .i64 a0_3, .int .i64 a0_4, .int .i64 a0_5, .int .i64 a0_6, .int .i64 a0_7], .int .i64 a2] rfl (by (try simp only [List.map_toArray, List.map_cons, List.map_nil]); first | done | rfl | (simp only [List.length_drop, List.length_take]; rfl)) ?_; (with_reducible refine (hop_Takes.calls k a0_0 a0_1 a0_2 a0_3 a0_4 a0_5 a0_6 a0_7 a2 t168 _ A4.out).mono ?_); rintro e w25 ⟨rfl, hb⟩; refine ⟨_, rfl, ?_⟩; have n0_ := Aside0.mk (blk_below (g := gb167) (o := .cells #[.int .i64 a0_0, .int .i64 a0_1, .int .i64 a0_2, .int .i64 a0_3, .int .i64 a0_4, .int .i64 a0_5, .int .i64 a0_6, .int .i64 a0_7] 65 (0, 0)) (by (with_reducible repeat (first | refine blk_drewN ?_ _ | refine blk_drew ?_ | refine blk_alloc ?_ _)); exact BK167.out) hb); have n1_ := Aside0.mk (below_step (by repeat (first | (with_reducible first | exact HB.out | apply below_alloc | apply pw_below_drewN | apply below_drew1 | refine below_set ?_ GE167.out) | exact HB.out)) hb); clear BK167; clear HB; have BK167 := n0_; have HB := n1_; clear n0_ n1_; (try clear hb); (try clear hb2); (try clear hk); (try clear hi); have hcz26_0 : w25.cell? ⟨gb167, 0, none⟩ = some (.int .i64 a0_0) := (blk_cell BK167.out 0).trans rfl; have hcz26_1 : w25.cell? ⟨gb167, 1, none⟩ = some (.int .i64 a0_1) := (blk_cell BK167.out 1).trans rfl; have hcz26_2 : w25.cell? ⟨gb167, 2, none⟩ = some (.int .i64 a0_2) := (blk_cell BK167.out 2).trans rfl; have hcz26_3 : w25.cell? ⟨gb167, 3, none⟩ = some (.int .i64 a0_3) := (blk_cell BK167.out 3).trans rfl; have hcz26_4 : w25.cell? ⟨gb167, 4, none⟩ = some (.int .i64 a0_4) := (blk_cell BK167.out 4).trans rfl; have hcz26_5 : w25.cell? ⟨gb167, 5, none⟩ = some (.int .i64 a0_5) := (blk_cell BK167.out 5).trans rfl; have hcz26_6 : w25.cell? ⟨gb167, 6, none⟩ = some (.int .i64 a0_6) := (blk_cell BK167.out 6).trans rfl; have hcz26_7 : w25.cell? ⟨gb167, 7, none⟩ = some (.int .i64 a0_7) := (blk_cell BK167.out 7).trans rfl; have hfz26_0 := blk_frozen BK167.out 0; have hfz26_1 := blk_frozen BK167.out 1; have hfz26_2 := blk_frozen BK167.out 2; have hfz26_3 := blk_frozen BK167.out 3; have hfz26_4 := blk_frozen BK167.out 4; have hfz26_5 := blk_frozen BK167.out 5; have hfz26_6 := blk_frozen BK167.out 6; have hfz26_7 := blk_frozen BK167.out 7) | ((with_reducible refine gate_callee (f := 73) rfl ?_); refine goesL_ (some 28) rfl rfl Try.func73 (by kernel_rfl) rfl #[.agg #[.int .i64 a0_0, .int .i64 a0_1, .int .i64 a0_2, .int .i64 a0_3, .int .i64 a0_4, .int .i64 a0_5, .int .i64 a0_6, .int .i64 a0_7], .int .i64 a1, .int .i64 a2] rfl (by (try simp only [List.map_toArray, List.map_cons, List.map_nil]); first | done | rfl | (simp only [List.length_drop, List.length_take]; rfl)) ?_; (with_reducible refine (hop_right.calls k a0_0 a0_1 a0_2 a0_3 a0_4 a0_5 a0_6 a0_7 a1 a2 true _ A7.out).mono ?_); rintro e w27 ⟨rfl, hb⟩; refine ⟨_, rfl, ?_⟩; have n0_ := Aside0.mk (blk_below (g := gb167) (o := .cells #[.int .i64 a0_0, .int .i64 a0_1, .int .i64 a0_2, .int .i64 a0_3, .int .i64 a0_4, .int .i64 a0_5, .int .i64 a0_6, .int .i64 a0_7] 65 (0, 0)) (by (with_reducible repeat (first | refine blk_drewN ?_ _ | refine blk_drew ?_ | refine blk_alloc ?_ _)); exact BK167.out) hb); have n1_ := Aside0.mk (below_step (by repeat (first | (with_reducible first | exact HB.out | apply below_alloc | apply pw_below_drewN | apply below_drew1 | refine below_set ?_ GE167.out) | exact HB.out)) hb); clear BK167; clear HB; have BK167 := n0_; have HB := n1_; clear n0_ n1_; (try clear hb); (try clear hb2); (try clear hk); (try clear hi); have hcz28_0 : w27.cell? ⟨gb167, 0, none⟩ = some (.int .i64 a0_0) := (blk_cell BK167.out 0).trans rfl; have hcz28_1 : w27.cell? ⟨gb167, 1, none⟩ = some (.int .i64 a0_1) := (blk_cell BK167.out 1).trans rfl; have hcz28_2 : w27.cell? ⟨gb167, 2, none⟩ = some (.int .i64 a0_2) := (blk_cell BK167.out 2).trans rfl; have hcz28_3 : w27.cell? ⟨gb167, 3, none⟩ = some (.int .i64 a0_3) := (blk_cell BK167.out 3).trans rfl; have hcz28_4 : w27.cell? ⟨gb167, 4, none⟩ = some (.int .i64 a0_4) := (blk_cell BK167.out 4).trans rfl; have hcz28_5 : w27.cell? ⟨gb167, 5, none⟩ = some (.int .i64 a0_5) := (blk_cell BK167.out 5).trans rfl; have hcz28_6 : w27.cell? ⟨gb167, 6, none⟩ = some (.int .i64 a0_6) := (blk_cell BK167.out 6).trans rfl; have hcz28_7 : w27.cell? ⟨gb167, 7, none⟩ = some (.int .i64 a0_7) := (blk_cell BK167.out 7).trans rfl; have hfz28_0 := blk_frozen BK167.out 0; have hfz28_1 := blk_frozen BK167.out 1; have hfz28_2 := blk_frozen BK167.out 2; have hfz28_3 := blk_frozen BK167.out 3; have hfz28_4 := blk_frozen BK167.out 4; have hfz28_5 := blk_frozen BK167.out 5; have hfz28_6 := blk_frozen BK167.out 6; have hfz28_7 := blk_frozen BK167.out 7))
        go_ret2
        exact ⟨by first | rfl | (simp [errW_none, errW_some] <;> rfl) | (simp only [← hji5, ← hji6]; first | rfl | (simp [errW_none, errW_some] <;> rfl)) | (simp [*, errW_none, errW_some] <;> rfl), by repeat (first | (with_reducible first | exact HB.out | apply below_alloc | apply pw_below_drewN | apply below_drew1 | refine below_set ?_ GE167.out) | exact HB.out)⟩
  · replace c8 := Bool.eq_false_iff.mpr c8
    subst c8
    have H1 : (some (0, false)) = some (r1, r2) := by rw [if_neg (show ¬ (false = true) by decide)] at H; exact H
    clear H
    have H := H1
    clear H1
    simp only [Option.some.injEq, Prod.mk.injEq] at H
    obtain ⟨rfl, rfl⟩ := H
    go_enter Try.func78, Try.ntmps78
    go_wp2_with (first | ((with_reducible refine gate_dst (N := 3) rfl ?_); refine box_event ?hg (N := 3) ?hd (cs := #[.int .i64 a0_0, .int .i64 a0_1, .int .i64 a0_2, .int .i64 a0_3, .int .i64 a0_4, .int .i64 a0_5, .int .i64 a0_6, .int .i64 a0_7]) (t := 65) ?hr ?_; (case hd => rfl); (case hg => rfl); (case hr => first | (go_simp; done) | (go_simp; rfl)); intro gb167 hg w29 hbox hb; have n0_ := Aside0.mk (below_step (by repeat (first | (with_reducible first | exact HB.out | apply below_alloc | apply pw_below_drewN | apply below_drew1) | exact HB.out)) hb); have n1_ := Aside0.mk (hbox); have n2_ := Aside0.mk ((by rw [hg]; exact (below_size (by repeat (first | (with_reducible first | exact HB.out | apply below_alloc | apply pw_below_drewN | apply below_drew1) | exact HB.out))) : w.heap.size ≤ gb167)); have n3_ := Aside0.mk ((by rw [hg]; exact (below_size (by repeat (first | (with_reducible first | exact HB.out | apply below_alloc | apply pw_below_drewN | apply below_drew1) | exact HB.out))) : w.heap.size ≤ gb167)); clear HB; have HB := n0_; have BK167 := n1_; have GW167 := n2_; have GE167 := n3_; clear n0_ n1_ n2_ n3_; clear hb hbox hg; have hcz30_0 : w29.cell? ⟨gb167, 0, none⟩ = some (.int .i64 a0_0) := (blk_cell BK167.out 0).trans rfl; have hcz30_1 : w29.cell? ⟨gb167, 1, none⟩ = some (.int .i64 a0_1) := (blk_cell BK167.out 1).trans rfl; have hcz30_2 : w29.cell? ⟨gb167, 2, none⟩ = some (.int .i64 a0_2) := (blk_cell BK167.out 2).trans rfl; have hcz30_3 : w29.cell? ⟨gb167, 3, none⟩ = some (.int .i64 a0_3) := (blk_cell BK167.out 3).trans rfl; have hcz30_4 : w29.cell? ⟨gb167, 4, none⟩ = some (.int .i64 a0_4) := (blk_cell BK167.out 4).trans rfl; have hcz30_5 : w29.cell? ⟨gb167, 5, none⟩ = some (.int .i64 a0_5) := (blk_cell BK167.out 5).trans rfl; have hcz30_6 : w29.cell? ⟨gb167, 6, none⟩ = some (.int .i64 a0_6) := (blk_cell BK167.out 6).trans rfl; have hcz30_7 : w29.cell? ⟨gb167, 7, none⟩ = some (.int .i64 a0_7) := (blk_cell BK167.out 7).trans rfl; have hfz30_0 := blk_frozen BK167.out 0; have hfz30_1 := blk_frozen BK167.out 1; have hfz30_2 := blk_frozen BK167.out 2; have hfz30_3 := blk_frozen BK167.out 3; have hfz30_4 := blk_frozen BK167.out 4; have hfz30_5 := blk_frozen BK167.out 5; have hfz30_6 := blk_frozen BK167.out 6; have hfz30_7 := blk_frozen BK167.out 7) | ((with_reducible refine gate_callee (f := 72) rfl ?_); refine goesL_ (some 12) rfl rfl Try.func72 (by kernel_rfl) rfl #[.agg #[.int .i64 a0_0, .int .i64 a0_1, .int .i64 a0_2, .int .i64 a0_3, .int .i64 a0_4, .int .i64 a0_5, .int .i64 a0_6, .int .i64 a0_7], .int .i64 a2] rfl (by (try simp only [List.map_toArray, List.map_cons, List.map_nil]); first | done | rfl | (simp only [List.length_drop, List.length_take]; rfl)) ?_; (with_reducible refine (hop_Takes.calls k a0_0 a0_1 a0_2 a0_3 a0_4 a0_5 a0_6 a0_7 a2 t168 _ A4.out).mono ?_); rintro e w31 ⟨rfl, hb⟩; refine ⟨_, rfl, ?_⟩; have n0_ := Aside0.mk (blk_below (g := gb167) (o := .cells #[.int .i64 a0_0, .int .i64 a0_1, .int .i64 a0_2, .int .i64 a0_3, .int .i64 a0_4, .int .i64 a0_5, .int .i64 a0_6, .int .i64 a0_7] 65 (0, 0)) (by (with_reducible repeat (first | refine blk_drewN ?_ _ | refine blk_drew ?_ | refine blk_alloc ?_ _)); exact BK167.out) hb); have n1_ := Aside0.mk (below_step (by repeat (first | (with_reducible first | exact HB.out | apply below_alloc | apply pw_below_drewN | apply below_drew1 | refine below_set ?_ GE167.out) | exact HB.out)) hb); clear BK167; clear HB; have BK167 := n0_; have HB := n1_; clear n0_ n1_; (try clear hb); (try clear hb2); (try clear hk); (try clear hi); have hcz32_0 : w31.cell? ⟨gb167, 0, none⟩ = some (.int .i64 a0_0) := (blk_cell BK167.out 0).trans rfl; have hcz32_1 : w31.cell? ⟨gb167, 1, none⟩ = some (.int .i64 a0_1) := (blk_cell BK167.out 1).trans rfl; have hcz32_2 : w31.cell? ⟨gb167, 2, none⟩ = some (.int .i64 a0_2) := (blk_cell BK167.out 2).trans rfl; have hcz32_3 : w31.cell? ⟨gb167, 3, none⟩ = some (.int .i64 a0_3) := (blk_cell BK167.out 3).trans rfl; have hcz32_4 : w31.cell? ⟨gb167, 4, none⟩ = some (.int .i64 a0_4) := (blk_cell BK167.out 4).trans rfl; have hcz32_5 : w31.cell? ⟨gb167, 5, none⟩ = some (.int .i64 a0_5) := (blk_cell BK167.out 5).trans rfl; have hcz32_6 : w31.cell? ⟨gb167, 6, none⟩ = some (.int .i64 a0_6) := (blk_cell BK167.out 6).trans rfl; have hcz32_7 : w31.cell? ⟨gb167, 7, none⟩ = some (.int .i64 a0_7) := (blk_cell BK167.out 7).trans rfl; have hfz32_0 := blk_frozen BK167.out 0; have hfz32_1 := blk_frozen BK167.out 1; have hfz32_2 := blk_frozen BK167.out 2; have hfz32_3 := blk_frozen BK167.out 3; have hfz32_4 := blk_frozen BK167.out 4; have hfz32_5 := blk_frozen BK167.out 5; have hfz32_6 := blk_frozen BK167.out 6; have hfz32_7 := blk_frozen BK167.out 7) | ((with_reducible refine gate_callee (f := 73) rfl ?_); refine goesL_ (some 28) rfl rfl Try.func73 (by kernel_rfl) rfl #[.agg #[.int .i64 a0_0, .int .i64 a0_1, .int .i64 a0_2, .int .i64 a0_3, .int .i64 a0_4, .int .i64 a0_5, .int .i64 a0_6, .int .i64 a0_7], .int .i64 a1, .int .i64 a2] rfl (by (try simp only [List.map_toArray, List.map_cons, List.map_nil]); first | done | rfl | (simp only [List.length_drop, List.length_take]; rfl)) ?_; (with_reducible refine (hop_right.calls k a0_0 a0_1 a0_2 a0_3 a0_4 a0_5 a0_6 a0_7 a1 a2 false _ A7.out).mono ?_); rintro e w33 ⟨rfl, hb⟩; refine ⟨_, rfl, ?_⟩; have n0_ := Aside0.mk (blk_below (g := gb167) (o := .cells #[.int .i64 a0_0, .int .i64 a0_1, .int .i64 a0_2, .int .i64 a0_3, .int .i64 a0_4, .int .i64 a0_5, .int .i64 a0_6, .int .i64 a0_7] 65 (0, 0)) (by (with_reducible repeat (first | refine blk_drewN ?_ _ | refine blk_drew ?_ | refine blk_alloc ?_ _)); exact BK167.out) hb); have n1_ := Aside0.mk (below_step (by repeat (first | (with_reducible first | exact HB.out | apply below_alloc | apply pw_below_drewN | apply below_drew1 | refine below_set ?_ GE167.out) | exact HB.out)) hb); clear BK167; clear HB; have BK167 := n0_; have HB := n1_; clear n0_ n1_; (try clear hb); (try clear hb2); (try clear hk); (try clear hi)))
    go_ret2
    exact ⟨by first | rfl | (simp [errW_none, errW_some] <;> rfl) | (simp only [← hji5, ← hji6]; first | rfl | (simp [errW_none, errW_some] <;> rfl)) | (simp [*, errW_none, errW_some] <;> rfl), by repeat (first | (with_reducible first | exact HB.out | apply below_alloc | apply pw_below_drewN | apply below_drew1 | refine below_set ?_ GE167.out) | exact HB.out)⟩
end Go.Proofs.Ytijflnpgiegajaa.Q
end
section
namespace Go.Proofs.Ytijflnpgiegajaa.IM
open Go.RowKit Go.ChangeMaps Go.Maps Go.MapKept
def aget {α : Type} : List (Int × α) → Int → Option α
  | [], _ => none
  | p :: r, k => if p.1 = k then some p.2 else aget r k
def aset {α : Type} : List (Int × α) → Int → α → List (Int × α)
  | [], k, v => [(k, v)]
  | p :: r, k, v => if p.1 = k then (k, v) :: r else p :: aset r k v
theorem aget_aset {α : Type} (m : List (Int × α)) (k : Int) (v : α) (j : Int) : aget (aset m k v) j = if k = j then some v else aget m j := by
  induction m with
  | nil => simp [aset, aget]
  | cons p r ih =>
    unfold aset
    by_cases h : p.1 = k
    · rw [if_pos h]
      simp only [aget]
      by_cases h2 : k = j
      · simp [h2]
      · simp [h2, h]
    · rw [if_neg h]
      simp only [aget, ih]
      by_cases h2 : p.1 = j
      · by_cases h3 : k = j
        · exact absurd (h2.trans h3.symm) h
        · simp [h2, h3]
      · simp [h2]
theorem keys_aset {α : Type} (m : List (Int × α)) (k : Int) (v : α) : (aset m k v).map (·.1) = if k ∈ m.map (·.1) then m.map (·.1) else m.map (·.1) ++ [k] := by
  induction m with
  | nil => simp [aset]
  | cons p r ih =>
    unfold aset
    by_cases h : p.1 = k
    · simp [h]
    · rw [if_neg h, List.map_cons, ih, List.map_cons]
      by_cases h2 : k ∈ r.map (·.1)
      · rw [if_pos h2, if_pos (List.mem_cons_of_mem _ h2)]
      · rw [if_neg h2, if_neg (by
          intro h3
          rcases List.mem_cons.1 h3 with h3 | h3
          · exact h h3.symm
          · exact h2 h3)]
        rfl
theorem aget_none {α : Type} {m : List (Int × α)} {k : Int} : aget m k = none ↔ k ∉ m.map (·.1) := by
  induction m with
  | nil => simp [aget]
  | cons p r ih =>
    simp only [aget, List.map_cons, List.mem_cons, not_or]
    by_cases h : p.1 = k
    · simp [h]
    · rw [if_neg h, ih]
      exact ⟨fun g => ⟨fun e => h e.symm, g⟩, fun g => g.2⟩
theorem aget_some_mem {α : Type} {m : List (Int × α)} {k : Int} {v : α} (h : aget m k = some v) : (k, v) ∈ m := by
  induction m with
  | nil => simp [aget] at h
  | cons p r ih =>
    simp only [aget] at h
    by_cases h2 : p.1 = k
    · rw [if_pos h2] at h
      obtain ⟨a, b⟩ := p
      simp only [Option.some.injEq] at h
      subst h
      subst h2
      exact List.mem_cons_self
    · rw [if_neg h2] at h
      exact List.mem_cons_of_mem _ (ih h)
theorem aget_of_mem {α : Type} {m : List (Int × α)} (hn : (m.map (·.1)).Nodup) {k : Int} {v : α} (h : (k, v) ∈ m) : aget m k = some v := by
  induction m with
  | nil => simp at h
  | cons p r ih =>
    simp only [List.map_cons, List.nodup_cons] at hn
    simp only [aget]
    rcases List.mem_cons.1 h with rfl | h
    · simp
    · have : p.1 ≠ k := fun e => hn.1 (by rw [e]; exact List.mem_map.2 ⟨_, h, rfl⟩)
      rw [if_neg this]
      exact ih hn.2 h
theorem nodup_aset {α : Type} {m : List (Int × α)} (hn : (m.map (·.1)).Nodup) (k : Int) (v : α) : ((aset m k v).map (·.1)).Nodup := by
  rw [keys_aset]
  split
  · exact hn
  · rename_i h
    rw [List.nodup_append]
    exact ⟨hn, by simp, fun a ha b hb e => h (by simp at hb; rw [← hb, ← e]; exact ha)⟩
def ent (e : MapEntry) : Value × Value := (e.key, e.val)
def kv (p : Int × Value) : Value × Value := (.int .i64 p.1, p.2)
def IMap (w : World) (b : Nat) (m : List (Int × Value)) : Prop :=
  ∃ es clk, w.heap[b]? = some (.map es clk) ∧ Stamped es clk ∧ es.toList.map ent = m.map kv
theorem IMap.lt {w : World} {b : Nat} {m : List (Int × Value)} (h : IMap w b m) : b < w.heap.size := by
  obtain ⟨es, clk, hb, _⟩ := h
  exact (Array.getElem?_eq_some_iff.1 hb).1
theorem IMap.kept {w w' : World} {b : Nat} {m : List (Int × Value)} (h : IMap w b m) {row : Option Nat} (hg : w.grownBy w' row) (hne : some b ≠ row) : IMap w' b m := by
  obtain ⟨es, clk, hb, hs, hm⟩ := h
  exact ⟨es, clk, (hg.block b (Array.getElem?_eq_some_iff.1 hb).1 hne).trans hb, hs, hm⟩
theorem IMap.below {w w' : World} {b : Nat} {m : List (Int × Value)} (h : IMap w b m) (hb : Below w.heap.size w w') : IMap w' b m :=
  h.kept (row := none) ⟨hb.os, hb.tape, hb.output, hb.size, fun i hi _ => hb.block i hi⟩ (by simp)
theorem IMap.drew {w : World} {b : Nat} {m : List (Int × Value)} (h : IMap w b m) : IMap w.drew b m := h
theorem IMap.made (w : World) : IMap (w.alloc (.map #[] 0)) w.heap.size [] :=
  ⟨#[], 0, by show (w.heap.push _)[w.heap.size]? = _; simp, stamped_empty 0, rfl⟩
theorem IMap.nodup {w : World} {b : Nat} {m : List (Int × Value)} (h : IMap w b m) : (m.map (·.1)).Nodup := by
  obtain ⟨es, clk, _, ⟨_, _, h3⟩, hm⟩ := h
  have e : es.toList.map (·.key) = m.map (fun p => Value.int .i64 p.1) := by
    have := congrArg (List.map Prod.fst) hm
    simpa [List.map_map, Function.comp_def, ent, kv] using this
  rw [e] at h3
  have : (m.map (fun p => Value.int .i64 p.1)) = (m.map (·.1)).map (fun x => Value.int .i64 x) := by simp [List.map_map, Function.comp_def]
  rw [this] at h3
  unfold List.Nodup at h3 ⊢
  rw [List.pairwise_map] at h3
  exact h3.imp (fun h e => h (by rw [e]))
theorem keys_ok {es : Array MapEntry} {m : List (Int × Value)} (hm : es.toList.map ent = m.map kv) : ∀ x ∈ es.toList, IsKey (.int .i64) x.key := by
  intro x hx
  have h : ent x ∈ m.map kv := by rw [← hm]; exact List.mem_map.2 ⟨x, hx, rfl⟩
  obtain ⟨p, _, hp⟩ := List.mem_map.1 h
  have : x.key = .int .i64 p.1 := (congrArg Prod.fst hp).symm
  rw [this]; rfl
theorem get_none : ∀ (l : List MapEntry) (m : List (Int × Value)) (k : Int), l.map ent = m.map kv → (∀ x ∈ l, x.key ≠ .int .i64 k) → aget m k = none
  | [], [], _, _, _ => rfl
  | [], _ :: _, _, h, _ => by simp at h
  | _ :: _, [], _, h, _ => by simp at h
  | e :: l, p :: m, k, h, hx => by
    simp only [List.map_cons, List.cons.injEq] at h
    have hk : e.key = .int .i64 p.1 := congrArg Prod.fst h.1
    have hne : p.1 ≠ k := fun g => hx e List.mem_cons_self (by rw [hk, g])
    simp only [aget, if_neg hne]
    exact get_none l m k h.2 (fun x hx' => hx x (List.mem_cons_of_mem _ hx'))
theorem get_some : ∀ (l : List MapEntry) (m : List (Int × Value)) (k : Int) (j : Nat) (e0 : MapEntry), l.map ent = m.map kv → (l.map (·.key)).Nodup → l[j]? = some e0 → e0.key = .int .i64 k → aget m k = some e0.val
  | [], _, _, _, _, _, _, h, _ => by simp at h
  | _ :: _, [], _, _, _, h, _, _, _ => by simp at h
  | e :: l, p :: m, k, 0, e0, h, _, he, hk => by
    simp only [List.map_cons, List.cons.injEq] at h
    have : e = e0 := by simpa using he
    subst this
    have e1 : e.key = .int .i64 p.1 := congrArg Prod.fst h.1
    have e2 : e.val = p.2 := congrArg Prod.snd h.1
    rw [hk] at e1
    injection e1 with _ e1
    simp [aget, e1, e2]
  | e :: l, p :: m, k, j + 1, e0, h, hn, he, hk => by
    simp only [List.map_cons, List.cons.injEq] at h
    simp only [List.map_cons, List.nodup_cons] at hn
    have he' : l[j]? = some e0 := by simpa using he
    have hp : p.1 ≠ k := by
      intro hp
      have e1 : e.key = .int .i64 p.1 := congrArg Prod.fst h.1
      exact hn.1 (by rw [e1, hp, ← hk]; exact List.mem_map.2 ⟨e0, List.mem_of_getElem? he', rfl⟩)
    simp only [aget, if_neg hp]
    exact get_some l m k j e0 h.2 hn.2 he' hk
theorem IMap.lookup {P : Program} {w : World} {b : Nat} {m : List (Int × Value)} (h : IMap w b m) {t kt e : TypeId} (ht : P.underlying t = some (.map kt e)) (hk : P.underlying kt = some (.int .i64)) {z : Value} (hz : (zeroValue e).run P w = .ok z w) (k : Int) (c : Bool) :
    (Instr.lookup t (.map (some b)) (.int .i64 k) c).run P w = .ok (if c then .tuple #[(aget m k).getD z, .bool (aget m k).isSome] else (aget m k).getD z) w := by
  obtain ⟨es, clk, hb, hs, hm⟩ := h
  have hkey : IsKey (.int .i64) (.int .i64 k) := rfl
  rcases findNow_spec hkey es.toList 0 (keys_ok hm) with ⟨h1, h2⟩ | ⟨j, e0, h1, h2, h3⟩
  · have hn : aget m k = none := get_none _ _ _ hm h2
    cases c <;> simp [Instr.lookup, Sem.run_bind, run_underlying ht, MapKept.run_getObj_map hb, run_checkKey hk hkey, run_findKey hk h1, hz, Result.andThen, hn]
  · have hn : aget m k = some e0.val := get_some _ _ _ j e0 hm hs.2.2 h2 h3
    cases c <;> simp [Instr.lookup, Sem.run_bind, run_underlying ht, MapKept.run_getObj_map hb, run_checkKey hk hkey, run_findKey hk h1, Result.andThen, hn]
theorem map_modify : ∀ (l : List MapEntry) (m : List (Int × Value)) (j : Nat) (e0 : MapEntry) (k : Int) (v : Value), l.map ent = m.map kv → (l.map (·.key)).Nodup → l[j]? = some e0 → e0.key = .int .i64 k →
    (l.modify j (fun e => { e with key := .int .i64 k, val := v })).map ent = (aset m k v).map kv
  | [], _, _, _, _, _, _, _, h, _ => by simp at h
  | _ :: _, [], _, _, _, _, h, _, _, _ => by simp at h
  | e :: l, p :: m, 0, e0, k, v, h, hn, he, hk => by
    simp only [List.map_cons, List.cons.injEq] at h
    have : e = e0 := by simpa using he
    subst this
    have hp : p.1 = k := by
      have := congrArg Prod.fst h.1
      simp only [ent, kv] at this
      rw [hk] at this
      injection this with _ this
      exact this.symm
    simp [List.modify, aset, hp, ent, kv]
    simpa [ent, kv] using h.2
  | e :: l, p :: m, j + 1, e0, k, v, h, hn, he, hk => by
    simp only [List.map_cons, List.cons.injEq] at h
    simp only [List.map_cons, List.nodup_cons] at hn
    have he' : l[j]? = some e0 := by simpa using he
    have hp : p.1 ≠ k := by
      intro hp
      have e1 : e.key = .int .i64 p.1 := congrArg Prod.fst h.1
      exact hn.1 (by rw [e1, hp, ← hk]; exact List.mem_map.2 ⟨e0, List.mem_of_getElem? he', rfl⟩)
    have := map_modify l m j e0 k v h.2 hn.2 he' hk
    simp only [aset, if_neg hp, List.map_cons, List.modify_succ_cons]
    rw [this, h.1]
theorem IMap.update {P : Program} {w : World} {b : Nat} {m : List (Int × Value)} (h : IMap w b m) {t kt e : TypeId} (ht : P.underlying t = some (.map kt e)) (hk : P.underlying kt = some (.int .i64)) (k : Int) (v : Value) :
    ∃ w', (Instr.mapUpdate t (.map (some b)) (.int .i64 k) v).run P w = .ok () w' ∧ IMap w' b (aset m k v) ∧ w.grownBy w' (some b) ∧ w'.heap.size = w.heap.size := by
  obtain ⟨es, clk, hb, hs, hm⟩ := h
  have hkey : IsKey (.int .i64) (.int .i64 k) := rfl
  have hgr : ∀ o : Obj, w.grownBy { w with heap := w.heap.setIfInBounds b o } (some b) := fun o => ⟨rfl, rfl, rfl, by simp, fun i _ hi => (heap_set hb).2 i (fun e1 => hi (by rw [e1]))⟩
  rcases findNow_spec hkey es.toList 0 (keys_ok hm) with ⟨h1, h2⟩ | ⟨j, e0, h1, h2, h3⟩
  · refine ⟨{ w with heap := w.heap.setIfInBounds b (.map (es.push { key := .int .i64 k, val := v, born := clk }) (clk + 1)) }, by simp [Instr.mapUpdate, run_underlying ht, MapKept.run_getObj_map hb, run_checkKey hk hkey, run_findKey hk h1, run_setObj_map _ hb, Result.andThen], ⟨_, _, (heap_set hb).1, stamped_push hs h2, ?_⟩, hgr _, by simp⟩
    have hn : k ∉ m.map (·.1) := aget_none.1 (get_none _ _ _ hm h2)
    have ha : aset m k v = m ++ [(k, v)] := by
      clear hm
      induction m with
      | nil => rfl
      | cons p r ih =>
        simp only [List.map_cons, List.mem_cons, not_or] at hn
        rw [aset, if_neg (fun e => hn.1 e.symm), ih hn.2]
        rfl
    rw [ha, Array.toList_push, List.map_append, List.map_append, hm]
    rfl
  · have hj : es[j]? = some e0 := by simpa using h2
    have hkk : ∀ e', es[j]? = some e' → ({ e' with key := .int .i64 k, val := v } : MapEntry).key = e'.key := fun e' he' => by rw [hj] at he'; cases he'; exact h3.symm
    refine ⟨{ w with heap := w.heap.setIfInBounds b (.map (es.modify j fun e => { e with key := .int .i64 k, val := v }) clk) }, by
      simp [Instr.mapUpdate, run_underlying ht, MapKept.run_getObj_map hb, run_checkKey hk hkey, run_findKey hk h1, hj, h3, run_keyThatStays hkey, run_setObj_map _ hb, Result.andThen]
      , ⟨_, _, (heap_set hb).1, stamped_modify hs _ _ (fun _ _ => rfl) (fun e' _ he' => hkk e' he'), ?_⟩, hgr _, by simp⟩
    rw [Array.toList_modify]
    exact map_modify es.toList m j e0 k v hm hs.2.2 h2 h3
def IRange (w : World) (b r : Nat) (m : List (Int × Value)) (left : List Int) : Prop :=
  r ≠ b ∧ ∃ es clk since seen c0, w.heap[b]? = some (.map es clk) ∧ Stamped es clk ∧ es.toList.map ent = m.map kv ∧
    w.heap[r]? = some (.mapIter (some b) since seen c0) ∧ (∀ x ∈ es.toList, x.born < since) ∧ since ≤ c0 ∧ since ≤ clk ∧
    (leftOf es seen).toList.map (·.key) = left.map (fun x => Value.int .i64 x)
theorem IRange.imap {w : World} {b r : Nat} {m : List (Int × Value)} {left : List Int} (h : IRange w b r m left) : IMap w b m := by
  obtain ⟨_, es, clk, since, seen, c0, hb, hs, hm, _⟩ := h
  exact ⟨es, clk, hb, hs, hm⟩
theorem IRange.kept {w w' : World} {b r : Nat} {m : List (Int × Value)} {left : List Int} (h : IRange w b r m left) {row : Option Nat} (hg : w.grownBy w' row) (hb' : some b ≠ row) (hr' : some r ≠ row) : IRange w' b r m left := by
  obtain ⟨hne, es, clk, since, seen, c0, hb, hs, hm, hr, h1, h2, h4, h3⟩ := h
  exact ⟨hne, es, clk, since, seen, c0, (hg.block b (Array.getElem?_eq_some_iff.1 hb).1 hb').trans hb, hs, hm, (hg.block r (Array.getElem?_eq_some_iff.1 hr).1 hr').trans hr, h1, h2, h4, h3⟩
theorem IMap.range {P : Program} {w : World} {b : Nat} {m : List (Int × Value)} (h : IMap w b m) {t kt e : TypeId} (ht : P.underlying t = some (.map kt e)) :
    ∃ w', (Instr.range t (.map (some b))).run P w = .ok (.pointer (some ⟨w.heap.size, 0, none⟩)) w' ∧ IRange w' b w.heap.size m (m.map (·.1)) ∧ Below w.heap.size w w' ∧ w'.heap.size = w.heap.size + 1 := by
  have hlt := h.lt
  obtain ⟨es, clk, hb, hs, hm⟩ := h
  refine ⟨w.alloc (.mapIter (some b) clk #[] clk), ?_, ⟨by omega, es, clk, clk, #[], clk, ?_, hs, hm, by show (w.heap.push _)[w.heap.size]? = _; simp, hs.1, Nat.le_refl _, Nat.le_refl _, ?_⟩, (Below.refl _ _).alloc (Nat.le_refl _) _, by show (w.heap.push _).size = _; simp⟩
  · simp [Instr.range, run_underlying ht, MapKept.run_getObj_map hb, Result.andThen]
  · show (w.heap.push _)[b]? = _
    rw [Array.getElem?_push, if_neg (by omega)]
    exact hb
  · have : leftOf es #[] = es := by unfold leftOf; exact Array.filter_eq_self.2 (fun x _ => by simp)
    rw [this]
    have := congrArg (List.map Prod.fst) hm
    simpa [List.map_map, Function.comp_def, ent, kv] using this
theorem filter_erase_key : ∀ (l : List MapEntry) (left : List Int) (e : MapEntry) (k : Int), l.map (·.key) = left.map (fun x => Value.int .i64 x) → (l.map (·.born)).Nodup → (l.map (·.key)).Nodup → e ∈ l → e.key = .int .i64 k →
    (l.filter (fun x => !(x.born == e.born))).map (·.key) = (left.erase k).map (fun x => Value.int .i64 x)
  | [], _, _, _, _, _, _, h, _ => by simp at h
  | _ :: _, [], _, _, h, _, _, _, _ => by simp at h
  | x :: l, y :: left, e, k, h, hn, hn2, he, hk => by
    simp only [List.map_cons, List.cons.injEq] at h
    simp only [List.map_cons, List.nodup_cons] at hn hn2
    by_cases hx : x.born = e.born
    · have hxe : x = e := by
        rcases List.mem_cons.1 he with he | he
        · exact he.symm
        · exact absurd (List.mem_map.2 ⟨e, he, hx.symm⟩) hn.1
      subst hxe
      have hy : y = k := by
        have := h.1.symm.trans hk
        injection this
      have hall : l.filter (fun z => !(z.born == x.born)) = l := by
        rw [List.filter_eq_self]
        intro z hz
        have : z.born ≠ x.born := fun hze => hn.1 (by rw [← hze]; exact List.mem_map.2 ⟨z, hz, rfl⟩)
        simp [this]
      rw [List.filter_cons, if_neg (by simp), hall, hy, List.erase_cons_head]
      exact h.2
    · have he' : e ∈ l := by
        rcases List.mem_cons.1 he with rfl | he
        · exact absurd rfl hx
        · exact he
      have hy : ¬ (y == k) = true := by
        intro hy
        have hy := eq_of_beq hy
        exact hn2.1 (by rw [h.1, hy, ← hk]; exact List.mem_map.2 ⟨e, he', rfl⟩)
      rw [List.filter_cons, if_pos (by simp [hx]), List.erase_cons_tail hy, List.map_cons, List.map_cons, filter_erase_key l left e k h.2 hn.2 hn2.2 he' hk, h.1]
theorem leftOf_push (es : Array MapEntry) (seen : Array Nat) (e : MapEntry) : (leftOf es (seen.push e.born)).toList = (leftOf es seen).toList.filter (fun x => !(x.born == e.born)) := by
  unfold leftOf
  rw [Array.toList_filter, Array.toList_filter, List.filter_filter]
  congr 1
  funext x
  rw [contains_push]
  cases seen.contains x.born <;> cases (x.born == e.born) <;> rfl
theorem IRange.next {P : Program} {w : World} {b r : Nat} {m : List (Int × Value)} {left : List Int} (h : IRange w b r m left) (ty : TypeId) :
    (left = [] ∧ (Instr.next (.pointer (some ⟨r, 0, none⟩)) false ty).run P w = .ok (.tuple #[.bool false]) w) ∨
    ∃ k v w', k ∈ left ∧ aget m k = some v ∧ (Instr.next (.pointer (some ⟨r, 0, none⟩)) false ty).run P w = .ok (.tuple #[.bool true, .int .i64 k, v]) w' ∧ IRange w' b r m (left.erase k) ∧
      w.grownBy w' (some r) ∧ w'.heap.size = w.heap.size ∧ (Instr.entry (.pointer (some ⟨r, 0, none⟩))).run P w' = .ok (.tuple #[.int .i64 k, v]) w' := by
  have hnd := h.imap.nodup
  obtain ⟨hne, es, clk, since, seen, c0, hb, hs, hm, hr, h1, h2, h4, h3⟩ := h
  rcases run_next_at (P := P) w ty r b since c0 seen es clk hr hb h1 h2 with ⟨h0, hrun⟩ | ⟨e, he, w1, hal, hrun⟩
  · refine .inl ⟨?_, hrun⟩
    have : leftOf es seen = #[] := Array.eq_empty_of_size_eq_zero h0
    rw [this] at h3
    simpa using h3
  · obtain ⟨hem, hes⟩ := mem_left he
    have hr1 : w1.heap[r]? = some (.mapIter (some b) since seen c0) := by rcases hal with rfl | rfl <;> exact hr
    have hb1 : w1.heap[b]? = some (.map es clk) := by rcases hal with rfl | rfl <;> exact hb
    have hset := heap_set (o' := .mapIter (some b) since (seen.push e.born) clk) hr1
    have hb' : (setBlock w1 r (.mapIter (some b) since (seen.push e.born) clk)).heap[b]? = some (.map es clk) := (hset.2 b (fun e1 => hne e1.symm)).trans hb1
    have hmem : ent e ∈ m.map kv := by rw [← hm]; exact List.mem_map.2 ⟨e, hem, rfl⟩
    obtain ⟨⟨k, v⟩, hp, hkv⟩ := List.mem_map.1 hmem
    have hk : e.key = .int .i64 k := (congrArg Prod.fst hkv).symm
    have hv : e.val = v := (congrArg Prod.snd hkv).symm
    have hleft : k ∈ left := by
      have : e.key ∈ left.map (fun x => Value.int .i64 x) := by rw [← h3]; exact List.mem_map.2 ⟨e, he, rfl⟩
      obtain ⟨y, hy, hye⟩ := List.mem_map.1 this
      rw [hk] at hye
      injection hye with _ hye
      rwa [← hye]
    have hst := (stamped_iff es clk).1 hs
    refine .inr ⟨k, v, _, hleft, aget_of_mem hnd hp, by rw [hrun, hk, hv], ⟨hne, es, clk, since, seen.push e.born, clk, hb', hs, hm, hset.1, h1, h4, h4, ?_⟩, ?_, ?_, ?_⟩
    · rw [leftOf_push]
      have hsub : (leftOf es seen).toList.Sublist es.toList := by unfold leftOf; rw [Array.toList_filter]; exact List.filter_sublist
      exact filter_erase_key _ left e k h3 ((hsub.map _).nodup hst.2.1) ((hsub.map _).nodup hs.2.2) he hk
    · rcases hal with rfl | rfl <;> exact ⟨rfl, rfl, rfl, by simp [setBlock], fun i _ hi => hset.2 i (fun e1 => hi (by rw [e1]))⟩
    · rcases hal with rfl | rfl <;> simp [setBlock]
    · have := run_entry_at (P := P) _ r b since seen es clk e hset.1 hb' hem hst.2.1
      rw [hk, hv] at this
      exact this
end Go.Proofs.Ytijflnpgiegajaa.IM
end
section
namespace Go.Proofs.Ytijflnpgiegajaa.Ev
open Go.RowKit Go.Proofs.YtijflnpgiegajaaW.PrintWords Go.Proofs.YtijflnpgiegajaaW.PrintLast Go.Proofs.YtijflnpgiegajaaW.PrintMore Go.Proofs.Ytijflnpgiegajaa.IM
set_option linter.unusedVariables false
variable {P : Program} {ops : Array Oper} {rest : List Oper} {o o1 o2 : Oper} {a : Act} {Q : Exit → Act → World → Prop}
theorem unit_run {W w1 : World} (hgd : o.guard = none) (hrun : (execOp a.eval o).run P W = .ok .skip w1) (h : wpList P ops Q rest (a.put o.dst undef) w1) : wpList P ops Q (o :: rest) a W := by
  refine wpList_plain hgd fun K hK => ?_
  unfold Oper.wp
  rw [hrun]
  exact hK _ _ h
theorem box2 {W : World} (N : Tmp) (hd1 : o1.dst = some N) (hg1 : o1.guard = none) (hg2 : o2.guard = none) {t : TypeId} {x : Operand} (ho1 : o1.op = .alloc t) (ho2 : o2.op = .store t (.tmp N) x) (hd2 : o2.dst = none) (cs : Array Value) {zs : Array Value} {n bytes : Nat}
    (hz0 : (P.info? t).map (fun i => (i.zero, i.size, i.bytes)) = some (some (.agg zs), n, bytes)) (hn : cs.size = n) (hzs : zs.size = n) (hone0 : ∀ v ∈ cs.toList, v.oneCell' = true) (hN : (a.put (some N) (.pointer (some ⟨W.heap.size, 0, none⟩))).eval (.tmp N) = .pointer (some ⟨W.heap.size, 0, none⟩))
    (hx : (a.put (some N) (.pointer (some ⟨W.heap.size, 0, none⟩))).eval x = .agg cs)
    (h : ∀ g w1, g = W.heap.size → w1.heap[g]? = some (.cells cs t (0, 0)) → Below W.heap.size W w1 → w1.heap.size = W.heap.size + 1 → wpList P ops Q rest ((a.put (some N) (.pointer (some ⟨g, 0, none⟩))).put none undef) w1) :
    wpList P ops Q (o1 :: o2 :: rest) a W := by
  have hone : cs.all (·.oneCell') = true := by
    rw [← Array.all_toList, List.all_eq_true]
    exact hone0
  have hz : (P.info? t).map (fun i => (i.zero, i.size)) = some (some (.agg zs), cs.size) := by
    cases hq : P.info? t with
    | none => simp [hq] at hz0
    | some i => simp [hq] at hz0; simp [hz0, hn]
  have hzs : zs.size = cs.size := hzs.trans hn.symm
  obtain ⟨hzero, hsize⟩ := zero_of_info (P := P) hz
  have h1 : (execOp a.eval o1).run P W = .ok (.value (.pointer (some ⟨W.heap.size, 0, none⟩))) (W.alloc (.cells zs t (0, 0))) := by
    simp [execOp, ho1, Instr.alloc, hzero, Result.andThen, newVar, newRow, Value.cells]
  refine Kd.event_run hg1 h1 ?_
  rw [hd1]
  have h2 : (execOp (a.put (some N) (.pointer (some ⟨W.heap.size, 0, none⟩))).eval o2).run P (W.alloc (.cells zs t (0, 0))) = .ok .skip (W.alloc (.cells cs t (0, 0))) := by
    simp only [execOp, ho2, Sem.run_bind, hN, hx, run_storeAt_new W t zs cs hsize hzs hone, Result.andThen, Sem.run_pure]
  refine unit_run hg2 h2 ?_
  rw [hd2]
  exact h _ _ rfl (blk_new W _) (below_alloc (Below.refl _ _) _) (by show (W.heap.push _).size = _; simp)
theorem setRow_grown (W : World) (g : Nat) (c : Array Value) : W.grownBy (W.setRow g c) (some g) ∧ (W.setRow g c).heap.size = W.heap.size := by
  refine ⟨⟨rfl, rfl, rfl, by simp [World.setRow], fun i _ hi => ?_⟩, by simp [World.setRow]⟩
  have : g ≠ i := fun e => hi (by rw [e])
  simp [World.setRow, Array.getElem?_modify, this]
theorem store_part {W : World} {x y : Operand} {t T : TypeId} (N : Tmp) (hN : x = .tmp N) (hgd : o.guard = none) (hd : o.dst = none) (ho : o.op = .store t x y) (g off : Nat) (cur cs new : Array Value) {z : Option Value} {n bytes : Nat}
    (hblk : W.heap[g]? = some (.cells cur T (0, 0))) (hx : a.eval x = .pointer (some ⟨g, off, none⟩)) (hy : (a.eval y).cells = cs) (hinfo : (P.info? t).map (fun i => (i.zero, i.size, i.bytes)) = some (z, n, bytes)) (hn : cs.size = n)
    (hfit : off + cs.toList.length ≤ cur.size) (hone : ∀ v ∈ cs.toList, v.oneCell' = true) (hnew : (cur.toList.take (off + 0) ++ cs.toList ++ cur.toList.drop (off + 0 + cs.toList.length)).toArray = new)
    (h : ∀ w1, w1.heap[g]? = some (.cells new T (0, 0)) → W.grownBy w1 (some g) → w1.heap.size = W.heap.size → wpList P ops Q rest (a.put none undef) w1) : wpList P ops Q (o :: rest) a W := by
  have hrun := run_storeCells_at P g off T cs.toList 0 cur W hblk (by simpa using hfit) hone
  rw [hnew] at hrun
  have h1 : (execOp a.eval o).run P W = .ok .skip (W.setRow g new) := by
    cases hq : P.info? t with
    | none => simp [hq] at hinfo
    | some i =>
      have hs : i.size = cs.size := by simp [hq] at hinfo; omega
      simp [execOp, ho, hx, Instr.storeAt, Instr.sureAddr, storeVar, sizeOf, typeInfo, hq, hs, hy, hrun, Result.andThen]
  refine unit_run hgd h1 ?_
  rw [hd]
  have hg := setRow_grown W g new
  refine h _ ?_ hg.1 hg.2
  simp [World.setRow, Array.getElem?_modify, hblk]
theorem im_make {W : World} (N : Tmp) (hd : o.dst = some N) (hgd : o.guard = none) {t : TypeId} (ho : o.op = .makeMap t none)
    (h : ∀ b w1, b = W.heap.size → IMap w1 b [] → Below W.heap.size W w1 → w1.heap.size = W.heap.size + 1 → wpList P ops Q rest (a.put (some N) (.map (some b))) w1) : wpList P ops Q (o :: rest) a W := by
  have h1 : (execOp a.eval o).run P W = .ok (.value (.map (some W.heap.size))) (W.alloc (.map #[] 0)) := by
    simp [execOp, ho, Instr.makeMap, Result.andThen]
  refine Kd.event_run hgd h1 ?_
  rw [hd]
  exact h _ _ rfl (IMap.made W) (below_alloc (Below.refl _ _) _) (by show (W.heap.push _).size = _; simp)
theorem im_look2 {α : Type} (enc : α → Value) (d : α) {W : World} (N : Tmp) (hd : o.dst = some N) (hgd : o.guard = none) {t kt e : TypeId} {m x : Operand} (ho : o.op = .lookup t m x true)
    (ht : P.underlying t = some (.map kt e)) (hk : P.underlying kt = some (.int .i64)) (hz : (P.info? e).map (fun i => i.zero) = some (some (enc d))) (b : Nat) (l : List (Int × α)) (k : Int)
    (hm : a.eval m = .map (some b)) (hx : a.eval x = .int .i64 k) (H : IMap W b (l.map fun p => (p.1, enc p.2)))
    (h : wpList P ops Q rest (a.put (some N) (.tuple #[enc ((aget l k).getD d), .bool (aget l k).isSome])) W) : wpList P ops Q (o :: rest) a W := by
  have hzero : (zeroValue e).run P W = .ok (enc d) W := by
    cases hq : P.info? e with
    | none => simp [hq] at hz
    | some i => simp [hq] at hz; simp [zeroValue, typeInfo, hq, hz]
  have ha : aget (l.map fun p => (p.1, enc p.2)) k = (aget l k).map enc := by
    clear H h
    induction l with
    | nil => rfl
    | cons p r ih => simp only [List.map_cons, aget]; split <;> simp_all
  have h1 : (execOp a.eval o).run P W = .ok (.value (.tuple #[enc ((aget l k).getD d), .bool (aget l k).isSome])) W := by
    have := H.lookup ht hk hzero k true
    rw [ha] at this
    simp only [execOp, ho, hm, hx, Sem.run_bind, this, Result.andThen, Sem.run_pure, if_true]
    cases aget l k <;> rfl
  refine Kd.event_run hgd h1 ?_
  rw [hd]
  exact h
theorem im_look1 {α : Type} (enc : α → Value) (d : α) {W : World} (N : Tmp) (hd : o.dst = some N) (hgd : o.guard = none) {t kt e : TypeId} {m x : Operand} (ho : o.op = .lookup t m x false)
    (ht : P.underlying t = some (.map kt e)) (hk : P.underlying kt = some (.int .i64)) (hz : (P.info? e).map (fun i => i.zero) = some (some (enc d))) (b : Nat) (l : List (Int × α)) (k : Int)
    (hm : a.eval m = .map (some b)) (hx : a.eval x = .int .i64 k) (H : IMap W b (l.map fun p => (p.1, enc p.2)))
    (h : wpList P ops Q rest (a.put (some N) (enc ((aget l k).getD d))) W) : wpList P ops Q (o :: rest) a W := by
  have hzero : (zeroValue e).run P W = .ok (enc d) W := by
    cases hq : P.info? e with
    | none => simp [hq] at hz
    | some i => simp [hq] at hz; simp [zeroValue, typeInfo, hq, hz]
  have ha : aget (l.map fun p => (p.1, enc p.2)) k = (aget l k).map enc := by
    clear H h
    induction l with
    | nil => rfl
    | cons p r ih => simp only [List.map_cons, aget]; split <;> simp_all
  have h1 : (execOp a.eval o).run P W = .ok (.value (enc ((aget l k).getD d))) W := by
    have := H.lookup ht hk hzero k false
    rw [ha] at this
    simp only [execOp, ho, hm, hx, Sem.run_bind, this, Result.andThen, Sem.run_pure, Bool.false_eq_true, if_false]
    cases aget l k <;> rfl
  refine Kd.event_run hgd h1 ?_
  rw [hd]
  exact h
theorem aset_map {α β : Type} (f : α → β) (l : List (Int × α)) (k : Int) (v : α) : aset (l.map fun p => (p.1, f p.2)) k (f v) = (aset l k v).map fun p => (p.1, f p.2) := by
  induction l with
  | nil => rfl
  | cons p r ih => simp only [List.map_cons, aset]; split <;> simp_all
theorem im_store {α : Type} (enc : α → Value) {W : World} (hgd : o.guard = none) (hd : o.dst = none) {t kt e : TypeId} {m x y : Operand} (ho : o.op = .mapUpdate t m x y)
    (ht : P.underlying t = some (.map kt e)) (hk : P.underlying kt = some (.int .i64)) (b : Nat) (l : List (Int × α)) (k : Int) (v : α)
    (hm : a.eval m = .map (some b)) (hx : a.eval x = .int .i64 k) (hy : a.eval y = enc v) (H : IMap W b (l.map fun p => (p.1, enc p.2)))
    (h : ∀ w1, IMap w1 b ((aset l k v).map fun p => (p.1, enc p.2)) → W.grownBy w1 (some b) → w1.heap.size = W.heap.size → wpList P ops Q rest (a.put none undef) w1) : wpList P ops Q (o :: rest) a W := by
  obtain ⟨w1, hrun, hm1, hg1, hs1⟩ := H.update ht hk k (enc v)
  have h1 : (execOp a.eval o).run P W = .ok .skip w1 := by
    simp only [execOp, ho, hm, hx, hy, Sem.run_bind, hrun, Result.andThen, Sem.run_pure]
  refine unit_run hgd h1 ?_
  rw [hd]
  rw [aset_map] at hm1
  exact h w1 hm1 hg1 hs1
theorem im_insert {α : Type} (enc : α → Value) {W : World} (hgd : o.guard = none) (hd : o.dst = none) {t kt e : TypeId} {m x y : Operand} (ho : o.op = .insert t m x y)
    (ht : P.underlying t = some (.map kt e)) (hk : P.underlying kt = some (.int .i64)) (b : Nat) (l : List (Int × α)) (k : Int) (v : α)
    (hm : a.eval m = .map (some b)) (hx : a.eval x = .int .i64 k) (hy : a.eval y = enc v) (H : IMap W b (l.map fun p => (p.1, enc p.2)))
    (h : ∀ w1, IMap w1 b ((aset l k v).map fun p => (p.1, enc p.2)) → W.grownBy w1 (some b) → w1.heap.size = W.heap.size → wpList P ops Q rest (a.put none undef) w1) : wpList P ops Q (o :: rest) a W := by
  obtain ⟨w1, hrun, hm1, hg1, hs1⟩ := H.update ht hk k (enc v)
  have h1 : (execOp a.eval o).run P W = .ok .skip w1 := by
    simp only [execOp, ho, hm, hx, hy, Sem.run_bind, hrun, Result.andThen, Sem.run_pure]
  refine unit_run hgd h1 ?_
  rw [hd]
  rw [aset_map] at hm1
  exact h w1 hm1 hg1 hs1
theorem im_range {W : World} (N : Tmp) (hd : o.dst = some N) (hgd : o.guard = none) {t kt e : TypeId} {m : Operand} (ho : o.op = .range t m) (ht : P.underlying t = some (.map kt e)) (b : Nat) (l : List (Int × Value))
    (hm : a.eval m = .map (some b)) (H : IMap W b l)
    (h : ∀ r w1, r = W.heap.size → IRange w1 b r l (l.map (·.1)) → Below W.heap.size W w1 → w1.heap.size = W.heap.size + 1 → wpList P ops Q rest (a.put (some N) (.pointer (some ⟨r, 0, none⟩))) w1) : wpList P ops Q (o :: rest) a W := by
  obtain ⟨w1, hrun, hr1, hb1, hs1⟩ := H.range (P := P) ht
  have h1 : (execOp a.eval o).run P W = .ok (.value (.pointer (some ⟨W.heap.size, 0, none⟩))) w1 := by
    simp only [execOp, ho, hm, Sem.run_bind, hrun, Result.andThen, Sem.run_pure]
  refine Kd.event_run hgd h1 ?_
  rw [hd]
  exact h _ _ rfl hr1 hb1 hs1
theorem im_next {W : World} (N : Tmp) (hd : o.dst = some N) (hgd : o.guard = none) {it : Operand} (ho : o.op = .next it false) (b r : Nat) (l : List (Int × Value)) (left : List Int)
    (hm : a.eval it = .pointer (some ⟨r, 0, none⟩)) (H : IRange W b r l left)
    (h0 : left = [] → wpList P ops Q rest (a.put (some N) (.tuple #[.bool false])) W)
    (h : ∀ k v w1, k ∈ left → aget l k = some v → IRange w1 b r l (left.erase k) → W.grownBy w1 (some r) → w1.heap.size = W.heap.size → (Instr.entry (.pointer (some ⟨r, 0, none⟩))).run P w1 = .ok (.tuple #[.int .i64 k, v]) w1 →
      wpList P ops Q rest (a.put (some N) (.tuple #[.bool true, .int .i64 k, v])) w1) : wpList P ops Q (o :: rest) a W := by
  rcases H.next (P := P) o.type with ⟨hl, hrun⟩ | ⟨k, v, w1, hk, hv, hrun, hr1, hg1, hs1, he1⟩
  · have h1 : (execOp a.eval o).run P W = .ok (.value (.tuple #[.bool false])) W := by
      simp only [execOp, ho, hm, Sem.run_bind, hrun, Result.andThen, Sem.run_pure]
    refine Kd.event_run hgd h1 ?_
    rw [hd]
    exact h0 hl
  · have h1 : (execOp a.eval o).run P W = .ok (.value (.tuple #[.bool true, .int .i64 k, v])) w1 := by
      simp only [execOp, ho, hm, Sem.run_bind, hrun, Result.andThen, Sem.run_pure]
    refine Kd.event_run hgd h1 ?_
    rw [hd]
    exact h k v w1 hk hv hr1 hg1 hs1 he1
theorem append_any {α : Type} (d : Kd α) {Kc : Act → World → Prop} {w0 W W' : World} (base : Nat) (hgd : o.guard = none) (s x : Operand) (t e : TypeId) (z : Value) (bytes : Nat)
    (ho : o.op = .call { callee := .builtin .append, args := #[s, x], argTypes := #[t, t] })
    (ht : P.underlying t = some (.slice e)) (hinfo : (P.info? e).map (fun i => (i.zero, i.size, i.bytes)) = some (some z, d.sz, bytes)) (hz : z.cells.size = d.sz) (hs0 : 0 < d.sz) (hb0 : 0 < bytes)
    (v : Value) (xs : List α) (p : α) (cs : List Value) (ok okp : Nat → Prop) (hs : a.eval s = v) (hx : a.eval x = .slice (some ⟨W.heap.size, 0, none⟩) 1 1) (hp : d.M W base okp p cs) (hokp : ∀ k, okp k → ok k ∧ some k ≠ v.ownBlock) (hfresh : ∀ k, W.heap.size ≤ k → ok k)
    (HO : d.R e W base ok v xs) (HB : Below base w0 W) (hbase : base ≤ W.heap.size) (hl : (xs.length + 1) * bytes ≤ 140737488355328) (hW : W' = W.alloc (.cells cs.toArray e))
    (h : ∀ v1 w1, d.R e w1 base ok v1 (xs ++ [p]) → Below base w0 w1 → W.grownBy w1 v.ownBlock → (v1.ownBlock = v.ownBlock ∨ ∃ b, v1.ownBlock = some b ∧ W.heap.size ≤ b) → Kc (a.put o.dst v1) w1) :
    Oper.wp P o a W' Kc Q := by
  subst hW
  have hw : Region.wanted o (yielded #[] a.tmps) = true := by simp [Region.wanted, hgd]
  have := Kd.R_append_step (P := P) (ops := #[]) (o := o) (a := a) (Q := Q) (Kc := Kc) d base hw s x t e z bytes ho ht hinfo hz hs0 hb0 v xs p cs ok okp hs hx hp hokp hfresh HO HB hbase hl h
  rw [if_pos hw] at this
  exact this
theorem box1 {W : World} (N : Tmp) (hd1 : o.dst = some N) (hg1 : o.guard = none) {t : TypeId} (ho1 : o.op = .alloc t) {zs : Array Value} {n bytes : Nat}
    (hz0 : (P.info? t).map (fun i => (i.zero, i.size, i.bytes)) = some (some (.agg zs), n, bytes))
    (h : ∀ g w1, g = W.heap.size → w1.heap[g]? = some (.cells zs t (0, 0)) → Below W.heap.size W w1 → w1.heap.size = W.heap.size + 1 → wpList P ops Q rest (a.put (some N) (.pointer (some ⟨g, 0, none⟩))) w1) :
    wpList P ops Q (o :: rest) a W := by
  have hzero : ∀ w, (zeroValue t).run P w = .ok (.agg zs) w := by
    cases hq : P.info? t with
    | none => simp [hq] at hz0
    | some i => simp [hq] at hz0; intro w; simp [zeroValue, typeInfo, hq, hz0]
  have h1 : (execOp a.eval o).run P W = .ok (.value (.pointer (some ⟨W.heap.size, 0, none⟩))) (W.alloc (.cells zs t (0, 0))) := by
    simp [execOp, ho1, Instr.alloc, hzero, Result.andThen, newVar, newRow, Value.cells]
  refine Kd.event_run hg1 h1 ?_
  rw [hd1]
  exact h _ _ rfl (blk_new W _) (below_alloc (Below.refl _ _) _) (by show (W.heap.push _).size = _; simp)
theorem R_store {α : Type} {d : Kd α} {e : Nat} {W w1 : World} {base : Nat} {ok : Nat → Prop} {v : Value} {xs : List α} {g T : Nat} {cur : Array Value} (h : d.R e W base ok v xs) (hblk : W.heap[g]? = some (.cells cur T (0, 0))) (hT : ∀ q, q ∈ e :: d.E → q ≠ T) (hg : W.grownBy w1 (some g)) : d.R e w1 base ok v xs :=
  Kd.R_mono (Kd.R_grown (Kd.R_types h hblk hT) hg (fun k hk e => hk.2 (by injection e))) (fun _ hk => hk.1)
theorem imap_ne_blk {w : World} {b g T : Nat} {m : List (Int × Value)} {cur : Array Value} (hm : IMap w b m) (hblk : w.heap[g]? = some (.cells cur T (0, 0))) : b ≠ g := fun he => by
  subst he
  obtain ⟨es, clk, hb, _⟩ := hm
  rw [hb] at hblk
  injection hblk with hblk
  exact Obj.noConfusion hblk
theorem R_mapstore {α : Type} {d : Kd α} {e : Nat} {W w1 : World} {base : Nat} {ok : Nat → Prop} {v : Value} {xs : List α} {b : Nat} {m : List (Int × Value)} (h : d.R e W base ok v xs) (hm : IMap W b m) (hg : W.grownBy w1 (some b)) : d.R e w1 base ok v xs :=
  Kd.R_mono (Kd.R_grown (Kd.R_bound h) hg (fun k hk he => by
    obtain ⟨_, _, _, q, _, cells, hc⟩ := hk
    injection he with he
    exact imap_ne_blk hm hc he.symm)) (fun _ hk => hk.1)
theorem blk_mapstore {w w1 : World} {b g T : Nat} {m : List (Int × Value)} {cur : Array Value} (hblk : w.heap[g]? = some (.cells cur T (0, 0))) (hm : IMap w b m) (hg : w.grownBy w1 (some b)) : w1.heap[g]? = some (.cells cur T (0, 0)) :=
  blk_grown hblk hg (fun he => by injection he with he; exact imap_ne_blk hm hblk he.symm)
theorem imap_ne {α : Type} {d : Kd α} {e : Nat} {w : World} {base : Nat} {ok : Nat → Prop} {v : Value} {xs : List α} {b : Nat} {m : List (Int × Value)} (hm : IMap w b m) (h : d.R e w base ok v xs) : some b ≠ v.ownBlock := fun he => by
  obtain ⟨inner, ho⟩ := Kd.R_own h
  obtain ⟨cells, hc⟩ := own_typed ho b he.symm
  obtain ⟨es, clk, hb, _⟩ := hm
  rw [hb] at hc
  injection hc with hc
  exact Obj.noConfusion hc
theorem R_new_ne {α : Type} {d : Kd α} {e : Nat} {w : World} {base : Nat} {ok : Nat → Prop} {v : Value} {xs : List α} (h : d.R e w base ok v xs) {g : Nat} (hg : g = w.heap.size) : some g ≠ v.ownBlock := fun he => by
  have := Kd.R_lt h g he.symm
  omega
theorem below_grown_one {w W w1 : World} {b : Nat} (h : Below w.heap.size w W) (hg : W.grownBy w1 (some b)) (hb : w.heap.size ≤ b) : Below w.heap.size w w1 := h.grown hg h.size (fun k hk => by injection hk with hk; omega)
end Go.Proofs.Ytijflnpgiegajaa.Ev
end
section
namespace Go.Proofs.Ytijflnpgiegajaa.Q
open Go.RowKit Go.Proofs.YtijflnpgiegajaaW.PrintWords Go.Proofs.YtijflnpgiegajaaW.PrintLast Go.Proofs.YtijflnpgiegajaaW.PrintMore Go.Proofs.Ytijflnpgiegajaa.IM Go.Proofs.Ytijflnpgiegajaa.Ev
set_option linter.unusedVariables false
set_option linter.unusedSimpArgs false
def byId (l : List S65) : List (Int × S65) := l.foldl (fun m e => aset m e.f0 e) []
def stepsGo (m : List (Int × S65)) : List Int → Int → List S65 → List S65 × Bool
  | [], _, acc => (acc, true)
  | id :: r, frm, acc => match aget m id with
    | none => ([], false)
    | some e => if e.f1 = frm then stepsGo m r e.f2 (acc ++ [e]) else ([], false)
def path_steps.f (l0 : List (S65)) (l1 : List Int) (a2 : Int) : Option ((List (S65)) × Bool) :=
  if l1.length < 1000000 then some (stepsGo (byId l0) l1 a2 []) else none
def enc65 (e : S65) : Value := .agg #[.int .i64 e.f0, .int .i64 e.f1, .int .i64 e.f2, .int .i64 e.f3, .int .i64 e.f4, .int .i64 e.f5, .int .i64 e.f6, .int .i64 e.f7]
theorem byId_snoc (l : List S65) (e : S65) : byId (l ++ [e]) = aset (byId l) e.f0 e := by simp [byId, List.foldl_append]
theorem take_snoc_rd (l : List S65) (i : Nat) (h : i < l.length) : l.take (i + 1) = l.take i ++ [rd_T65 l (i : Int)] := by
  rw [List.take_succ_eq_append_getElem h]
  congr 2
  simp [rd_T65, List.getD_eq_getElem?_getD, List.getElem?_eq_getElem h]
theorem drop_rd (l : List Int) (i : Nat) (h : i < l.length) : l.drop i = rd l (i : Int) :: l.drop (i + 1) := by
  rw [List.drop_eq_getElem_cons h]
  congr 1
  simp [rd, List.getD_eq_getElem?_getD, List.getElem?_eq_getElem h]
theorem zero65 : (Try.prog.info? 65).map (fun i => i.zero) = some (some (enc65 z65)) := by
  have h := info65
  cases hq : Try.prog.info? 65 with
  | none => simp [hq] at h
  | some i => simp [hq] at h; simp [h.1, enc65, z65]
theorem blk8 {w : World} {g : Nat} {v0 v1 v2 v3 v4 v5 v6 v7 : Value} (h : w.heap[g]? = some (.cells #[v0, v1, v2, v3, v4, v5, v6, v7] 65 (0, 0))) :
    w.cell? ⟨g, 0, none⟩ = some v0 ∧ w.cell? ⟨g, 1, none⟩ = some v1 ∧ w.cell? ⟨g, 2, none⟩ = some v2 ∧ w.cell? ⟨g, 3, none⟩ = some v3 ∧ w.cell? ⟨g, 4, none⟩ = some v4 ∧ w.cell? ⟨g, 5, none⟩ = some v5 ∧ w.cell? ⟨g, 6, none⟩ = some v6 ∧ w.cell? ⟨g, 7, none⟩ = some v7 :=
  ⟨(blk_cell h 0).trans rfl, (blk_cell h 1).trans rfl, (blk_cell h 2).trans rfl, (blk_cell h 3).trans rfl, (blk_cell h 4).trans rfl, (blk_cell h 5).trans rfl, (blk_cell h 6).trans rfl, (blk_cell h 7).trans rfl⟩
set_option maxHeartbeats 8000000 in
set_option maxRecDepth 100000 in
theorem path_steps.calls (A0 : Option Addr) (c0 : Nat) (l0 : List (S65)) (A1 : Option Addr) (c1 : Nat) (l1 : List Int) (a2 : Int) (r1 : List (S65)) (r2 : Bool) (w : World) (hr0 : Kd.C k65 w A0 l0.length l0) (hc0 : l0.length ≤ c0) (hr1 : Kd.C (Kd.int .i64) w A1 l1.length l1) (hc1 : l1.length ≤ c1) (h : path_steps.f l0 l1 a2 = some (r1, r2)) :
    Calls Try.prog 36 #[.slice A0 l0.length c0, .slice A1 l1.length c1, .int .i64 a2] w fun e w' => ∃ v0_ : Value, e = .returned (.tuple #[v0_, .bool r2]) ∧ Kd.R k65 65 w' w.heap.size (fun _ => True) v0_ r1 ∧ Below w.heap.size w w' := by
  have HR0 := Aside0.mk hr0
  have HR1 := Aside0.mk hr1
  have hl0 := hr0.2.1
  have hl1 := hr1.2.1
  clear hr0 hc0 hr1 hc1
  have HB := Aside0.mk (Below.refl w.heap.size w)
  have HF := Aside0.mk h
  clear h
  go_enter Try.func36, Try.ntmps36
  go_wp2_with (first | ((with_reducible refine gate_dst (N := 15) rfl ?_); refine im_make 15 rfl rfl rfl ?_; intro b w1 hb hm hbw hs; have HGE := Aside0.mk (Nat.le_of_eq hb.symm); have HM := Aside0.mk hm; have HB1 := Aside0.mk hbw; clear hm hbw hs hb HB))
  go_loopg [10, 18] l0.length (fun kq _ v18 w' => ∃ i : Nat, v18 = .int .i64 (i : Int) ∧ Aside0 (i + kq = l0.length) ∧ Aside0 (IMap w' b ((byId (l0.take i)).map fun p => (p.1, enc65 p.2))) ∧ Aside0 (Below w.heap.size w w'))
  case atStart => exact ⟨0, rfl, ⟨by omega⟩, HM, HB1⟩
  case round =>
    clear HM HB1
    obtain ⟨i, rfl, HI, HM, HB⟩ := hrel
    cases gk with
    | succ k1 =>
      have hi : i < l0.length := by have := HI.out; omega
      have p0 : 0 ≤ ((i : Nat) : Int) := by omega
      have p1 : ((i : Nat) : Int) < (l0.length : Int) := by omega
      obtain ⟨ad, e0, hx0, hx1, hx2, hx3, hx4, hx5, hx6, hx7⟩ := at_T65 HR0.out (i : Int) p0 p1
      cases e0
      rw [Int.toNat_natCast] at hx0 hx1 hx2 hx3 hx4 hx5 hx6 hx7
      replace hx0 := pw_cell_below HB.out hx0
      replace hx1 := pw_cell_below HB.out hx1
      replace hx2 := pw_cell_below HB.out hx2
      replace hx3 := pw_cell_below HB.out hx3
      replace hx4 := pw_cell_below HB.out hx4
      replace hx5 := pw_cell_below HB.out hx5
      replace hx6 := pw_cell_below HB.out hx6
      replace hx7 := pw_cell_below HB.out hx7
      have Hsn := Aside0.mk (take_snoc_rd l0 i hi)
      obtain ⟨ed, Hed⟩ : ∃ ed, ed = rd_T65 l0 (i : Int) := ⟨_, rfl⟩
      rw [← Hed] at hx0 hx1 hx2 hx3 hx4 hx5 hx6 hx7 Hsn
      clear Hed
      go_wp2_with (first
        | ((with_reducible refine gate_dst (N := 10) rfl ?_); go_loud (refine box2 10 rfl rfl rfl rfl rfl rfl #[.int .i64 ed.f0, .int .i64 ed.f1, .int .i64 ed.f2, .int .i64 ed.f3, .int .i64 ed.f4, .int .i64 ed.f5, .int .i64 ed.f6, .int .i64 ed.f7] info65 rfl rfl (by simp [Value.oneCell']) (by first | (go_simp; done) | (go_simp; rfl)) (by first | (go_simp; done) | (go_simp; rfl)) ?_); intro g w2 hg hblk hbw hs; have HM2 := Aside0.mk (HM.out.below hbw); have HB2 := Aside0.mk (below_step HB.out hbw); have HK := Aside0.mk hblk; have y0 := (blk_cell hblk 0).trans rfl; have y1 := (blk_cell hblk 1).trans rfl; have y2 := (blk_cell hblk 2).trans rfl; have y3 := (blk_cell hblk 3).trans rfl; have y4 := (blk_cell hblk 4).trans rfl; have y5 := (blk_cell hblk 5).trans rfl; have y6 := (blk_cell hblk 6).trans rfl; have y7 := (blk_cell hblk 7).trans rfl; clear hg hblk hbw hs HM HB hx0 hx1 hx2 hx3 hx4 hx5 hx6 hx7)
        | (at_mapUpdate; go_loud (refine im_store enc65 rfl rfl rfl Try.underlying107 Try.underlying3 b (byId (l0.take i)) ed.f0 ed rfl rfl rfl HM2.out ?_); intro w3 hm3 hg3 hs3; have HM := Aside0.mk hm3; have HB := Aside0.mk (below_grown_one HB2.out hg3 HGE.out); clear hm3 hg3 hs3 HM2 HB2))
      go_roundg k1
      case measure => omega
      case rel => exact ⟨i + 1, by first | rfl | (simp; done) | (go_num; done), ⟨by have := HI.out; omega⟩, ⟨by rw [Hsn.out, byId_snoc]; exact HM.out⟩, HB⟩
    | zero =>
      have hi : ¬ ((i : Nat) : Int) < (l0.length : Int) := by have := HI.out; omega
      have hM := HM.out
      rw [List.take_of_length_le (by have := HI.out; omega)] at hM
      replace HM := Aside0.mk hM
      clear hM HI
      have hF := HF.out
      unfold path_steps.f at hF
      have hlen : l1.length < 1000000 := by
        by_cases hq : l1.length < 1000000
        · exact hq
        · rw [if_neg hq] at hF; simp at hF
      rw [if_pos hlen] at hF
      have hF2 : stepsGo (byId l0) l1 a2 [] = (r1, r2) := Option.some.inj hF
      clear hF HF
      have HF := Aside0.mk hF2
      clear hF2
      go_wp2
      obtain ⟨mp, Hmp⟩ : ∃ mp, mp = byId l0 := ⟨_, rfl⟩
      rw [← Hmp] at HM HF
      clear Hmp hi
      go_loopg [2, 6, 12, 13, 14, 29] l1.length (fun kq v2 v6 _ _ _ v29 w' => ∃ (i : Nat) (frm : Int) (acc : List S65), v29 = .int .i64 (i : Int) ∧ v2 = .int .i64 frm ∧ Aside0 (i + kq = l1.length) ∧ Aside0 (acc.length ≤ i) ∧ Aside0 (stepsGo mp (l1.drop i) frm acc = (r1, r2)) ∧ Aside0 (IMap w' b (mp.map fun p => (p.1, enc65 p.2))) ∧ Aside0 (Kd.R k65 65 w' w.heap.size (fun _ => True) v6 acc) ∧ Aside0 (Below w.heap.size w w'))
      case atStart => exact ⟨0, a2, [], rfl, rfl, ⟨by omega⟩, ⟨Nat.le_refl _⟩, HF, HM, ⟨Kd.R_nil _ _ _ _ _⟩, HB⟩
      case round =>
        clear HM HB HF
        obtain ⟨i, frm, acc, rfl, rfl, HI, HL, HF, HM, HO, HB⟩ := hrel
        cases gk with
        | zero =>
          have hi : ¬ ((i : Nat) : Int) < (l1.length : Int) := by have := HI.out; omega
          have hF := HF.out
          rw [List.drop_eq_nil_of_le (by have := HI.out; omega)] at hF
          simp only [stepsGo, Prod.mk.injEq] at hF
          obtain ⟨rfl, rfl⟩ := hF
          go_wp2
          go_ret2
          exact ⟨_, rfl, HO.out, HB.out⟩
        | succ k1 =>
          have hi : i < l1.length := by have := HI.out; omega
          have p0 : 0 ≤ ((i : Nat) : Int) := by omega
          have p1 : ((i : Nat) : Int) < (l1.length : Int) := by omega
          obtain ⟨ad, e0, hx0⟩ := Kd.at_int HR1.out (i : Int) p0 p1
          cases e0
          rw [Int.toNat_natCast] at hx0
          replace hx0 := pw_cell_below HB.out hx0
          have hdr := drop_rd l1 i hi
          obtain ⟨id, Hid⟩ : ∃ id, id = rd l1 (i : Int) := ⟨_, rfl⟩
          rw [← Hid] at hx0 hdr
          clear Hid
          have hF := HF.out
          rw [hdr] at hF
          simp only [stepsGo] at hF
          clear hdr HF
          cases hg : aget mp id with
          | none =>
            rw [hg] at hF
            simp only [Prod.mk.injEq] at hF
            obtain ⟨rfl, rfl⟩ := hF
            have Hg := Aside0.mk hg
            clear hg
            go_wp2_with (first
              | (at_lookup; go_loud (refine im_look2 enc65 z65 36 rfl rfl rfl Try.underlying107 Try.underlying3 zero65 b mp id rfl rfl HM.out ?_); rw [Hg.out])
              | ((with_reducible refine gate_dst (N := 13) rfl ?_); go_loud (refine box2 13 rfl rfl rfl rfl rfl rfl #[.int .i64 0, .int .i64 0, .int .i64 0, .int .i64 0, .int .i64 0, .int .i64 0, .int .i64 0, .int .i64 0] info65 rfl rfl (by simp [Value.oneCell']) (by first | (go_simp; done) | (go_simp; rfl)) (by first | (go_simp; done) | (go_simp; rfl)) ?_); intro g w2 hg hblk hbw hs; have HM2 := Aside0.mk (HM.out.below hbw); have HO2 := Aside0.mk (Kd.R_below HO.out hbw); have HB2 := Aside0.mk (below_step HB.out hbw); have HK := Aside0.mk hblk; have y0 := (blk_cell hblk 0).trans rfl; have y1 := (blk_cell hblk 1).trans rfl; have y2 := (blk_cell hblk 2).trans rfl; have y3 := (blk_cell hblk 3).trans rfl; have y4 := (blk_cell hblk 4).trans rfl; have y5 := (blk_cell hblk 5).trans rfl; have y6 := (blk_cell hblk 6).trans rfl; have y7 := (blk_cell hblk 7).trans rfl;  clear hg hblk hbw hs HM HO HB))
            go_ret2
            exact ⟨_, rfl, Kd.R_nil _ _ _ _ _, HB2.out⟩
          | some ed =>
            rw [hg] at hF
            have Hg := Aside0.mk hg
            clear hg
            by_cases hfr : ed.f1 = frm
            · simp only [if_pos hfr] at hF
              have HF := Aside0.mk hF
              clear hF
              have hb0 : (ed.f1 != frm) = false := bne_eq_false_iff_eq.mpr hfr
              clear hfr
              go_wp2_with (first
                | (at_lookup; go_loud (refine im_look2 enc65 z65 36 rfl rfl rfl Try.underlying107 Try.underlying3 zero65 b mp id rfl rfl HM.out ?_); rw [Hg.out])
                | ((with_reducible refine gate_dst (N := 13) rfl ?_); go_loud (refine box2 13 rfl rfl rfl rfl rfl rfl #[.int .i64 ed.f0, .int .i64 ed.f1, .int .i64 ed.f2, .int .i64 ed.f3, .int .i64 ed.f4, .int .i64 ed.f5, .int .i64 ed.f6, .int .i64 ed.f7] info65 rfl rfl (by simp [Value.oneCell']) (by first | (go_simp; done) | (go_simp; rfl)) (by first | (go_simp; done) | (go_simp; rfl)) ?_); intro g w2 hg hblk hbw hs; have HM2 := Aside0.mk (HM.out.below hbw); have HO2 := Aside0.mk (Kd.R_below HO.out hbw); have HB2 := Aside0.mk (below_step HB.out hbw); have HK := Aside0.mk hblk; have HNE := Aside0.mk (R_new_ne HO.out hg); have y0 := (blk_cell hblk 0).trans rfl; have y1 := (blk_cell hblk 1).trans rfl; have y2 := (blk_cell hblk 2).trans rfl; have y3 := (blk_cell hblk 3).trans rfl; have y4 := (blk_cell hblk 4).trans rfl; have y5 := (blk_cell hblk 5).trans rfl; have y6 := (blk_cell hblk 6).trans rfl; have y7 := (blk_cell hblk 7).trans rfl;  clear hg hblk hbw hs HM HO HB))
              have hlen2 : (acc.length + 1) * 64 ≤ 140737488355328 := by have := HL.out; omega
              obtain ⟨Ao, co, eo⟩ := Kd.R_slice HO2.out
              subst eo
              go_region_held3 (fun w' => w'.cell? ⟨g, 0, none⟩ = some (.int .i64 ed.f0) ∧ w'.cell? ⟨g, 1, none⟩ = some (.int .i64 ed.f1) ∧ w'.cell? ⟨g, 2, none⟩ = some (.int .i64 ed.f2) ∧ w'.cell? ⟨g, 3, none⟩ = some (.int .i64 ed.f3) ∧ w'.cell? ⟨g, 4, none⟩ = some (.int .i64 ed.f4) ∧ w'.cell? ⟨g, 5, none⟩ = some (.int .i64 ed.f5) ∧ w'.cell? ⟨g, 6, none⟩ = some (.int .i64 ed.f6) ∧ w'.cell? ⟨g, 7, none⟩ = some (.int .i64 ed.f7)) (first | exact blk8 HK3.out | exact blk8 (blk_drew (blk_alloc HK.out _)) | exact blk8 HK.out | go_loud (exact blk8 HK3.out))
                (first | (rw [if_pos (by rfl)]; go_loud (refine append_any k65 (w0 := w) (W := w2.drew) w.heap.size ?h1 (.tmp 47) (.tmp 49) 22 65 (.agg #[.int .i64 0, .int .i64 0, .int .i64 0, .int .i64 0, .int .i64 0, .int .i64 0, .int .i64 0, .int .i64 0]) 64 ?h2 Try.underlying22 info65 rfl (by decide) ?h6 (.slice Ao acc.length co) acc ed [.int .i64 ed.f0, .int .i64 ed.f1, .int .i64 ed.f2, .int .i64 ed.f3, .int .i64 ed.f4, .int .i64 ed.f5, .int .i64 ed.f6, .int .i64 ed.f7] (fun _ => True) (fun _ => False) ?h8 ?h9 (k65_mkM _ _ _ ed) (fun _ hk => hk.elim) (fun _ _ => trivial) (Kd.R_drew HO2.out) (below_drew1 HB2.out) (below_size (below_drew1 HB2.out)) hlen2 ?h17 ?h18); go_loud (case h1 => rfl); go_loud (case h2 => rfl); go_loud (case h6 => decide); go_loud (case h8 => rfl); go_loud (case h9 => rfl); go_loud (case h17 => rfl); intro v3 w3 ho3 hb3 hg3 hat3; have HK3 := Aside0.mk (blk_grown (blk_drew HK.out) hg3 HNE.out); have HM3 := Aside0.mk (IMap.kept (IMap.drew HM2.out) hg3 (imap_ne HM2.out HO2.out)); have HO3 := Aside0.mk ho3; have HB3 := Aside0.mk hb3; clear ho3 hb3 hg3 hat3))
              go_wp2
              go_roundg k1
              case measure => omega
              case rel => exact ⟨i + 1, ed.f2, acc ++ [ed], by first | rfl | (simp; done) | (go_num; done), rfl, ⟨by have := HI.out; omega⟩, ⟨by have := HL.out; simp; omega⟩, HF, HM3, HO3, HB3⟩
            · simp only [if_neg hfr, Prod.mk.injEq] at hF
              obtain ⟨rfl, rfl⟩ := hF
              have hb0 : (ed.f1 != frm) = true := bne_iff_ne.mpr hfr
              clear hfr
              go_wp2_with (first
                | (at_lookup; go_loud (refine im_look2 enc65 z65 36 rfl rfl rfl Try.underlying107 Try.underlying3 zero65 b mp id rfl rfl HM.out ?_); rw [Hg.out])
                | ((with_reducible refine gate_dst (N := 13) rfl ?_); go_loud (refine box2 13 rfl rfl rfl rfl rfl rfl #[.int .i64 ed.f0, .int .i64 ed.f1, .int .i64 ed.f2, .int .i64 ed.f3, .int .i64 ed.f4, .int .i64 ed.f5, .int .i64 ed.f6, .int .i64 ed.f7] info65 rfl rfl (by simp [Value.oneCell']) (by first | (go_simp; done) | (go_simp; rfl)) (by first | (go_simp; done) | (go_simp; rfl)) ?_); intro g w2 hg hblk hbw hs; have HM2 := Aside0.mk (HM.out.below hbw); have HO2 := Aside0.mk (Kd.R_below HO.out hbw); have HB2 := Aside0.mk (below_step HB.out hbw); have HK := Aside0.mk hblk; have y0 := (blk_cell hblk 0).trans rfl; have y1 := (blk_cell hblk 1).trans rfl; have y2 := (blk_cell hblk 2).trans rfl; have y3 := (blk_cell hblk 3).trans rfl; have y4 := (blk_cell hblk 4).trans rfl; have y5 := (blk_cell hblk 5).trans rfl; have y6 := (blk_cell hblk 6).trans rfl; have y7 := (blk_cell hblk 7).trans rfl;  clear hg hblk hbw hs HM HO HB))
              go_ret2
              exact ⟨_, rfl, Kd.R_nil _ _ _ _ _, HB2.out⟩
end Go.Proofs.Ytijflnpgiegajaa.Q
end
section
namespace Go.Proofs.Ytijflnpgiegajaa.Q
open Go.RowKit Go.Proofs.YtijflnpgiegajaaW.PrintWords Go.Proofs.YtijflnpgiegajaaW.PrintLast Go.Proofs.YtijflnpgiegajaaW.PrintMore
attribute [local go_sem] max2_int min2_int max_two min_two
set_option linter.unusedVariables false
set_option linter.unusedSimpArgs false
mutual
def path_Walk.j0 : Nat → Int → Int → List (S65) → Bool → Option ((List (S56)) × Bool)
  | 0, _, _, _, _ => none
  | k + 1, x3, x4, x12, x37 => if x37 = true then (some (([] : List (S56)), false)) else (path_Walk.l0 k x3 x4 ([] : List (S56)) x12 (x12.length : Int) 0)
def path_Walk.l0 : Nat → Int → Int → List (S56) → List (S65) → Int → Int → Option ((List (S56)) × Bool)
  | 0, _, _, _, _, _, _ => none
  | k + 1, x3, x4, x14, x38, x39, x40 => if x40 < x39 then (if 0 ≤ x40 then (if x40 < (x38.length : Int) then ((hop_Pass.f k ((rd_T65 x38 x40).f0) ((rd_T65 x38 x40).f1) ((rd_T65 x38 x40).f2) ((rd_T65 x38 x40).f3) ((rd_T65 x38 x40).f4) ((rd_T65 x38 x40).f5) ((rd_T65 x38 x40).f6) ((rd_T65 x38 x40).f7) x3 x4).bind fun bt146 => (if bt146.2.2 = true then (if x14.length < 5864062014805 then (path_Walk.l0 k bt146.2.1 x4 (x14 ++ [(⟨(rd_T65 x38 x40).f0, bt146.1, bt146.2.1⟩ : S56)]) x38 x39 (wrap64 (x40 + 1))) else (none)) else (some (([] : List (S56)), false)))) else (none)) else (none)) else (some (x14, true))
end
def path_Walk.f (k : Nat) (l0 : List (S65)) (l1 : List Int) (a2 : Int) (a3 : Int) (a4 : Int) : Option ((List (S56)) × Bool) := (path_steps.f l0 l1 a2).bind fun bt139 => (if bt139.2 = true then ((path_asked.f k l0 a2 a2 a3 a4).bind fun t143 => (path_Walk.j0 k a3 a4 bt139.1 (!t143))) else (path_Walk.j0 k a3 a4 bt139.1 true))
set_option maxHeartbeats 8000000 in
set_option maxRecDepth 100000 in
theorem path_Walk.calls (k : Nat) (A0 : Option Addr) (c0 : Nat) (l0 : List (S65)) (A1 : Option Addr) (c1 : Nat) (l1 : List Int) (a2 : Int) (a3 : Int) (a4 : Int) (r1 : List (S56)) (r2 : Bool) (w : World) (hr0 : Kd.C k65 w A0 l0.length l0) (hc0 : l0.length ≤ c0) (hr1 : Kd.C (Kd.int .i64) w A1 l1.length l1) (hc1 : l1.length ≤ c1) (h : path_Walk.f k l0 l1 a2 a3 a4 = some (r1, r2)) :
    Calls Try.prog 51 #[.slice A0 l0.length c0, .slice A1 l1.length c1, .int .i64 a2, .int .i64 a3, .int .i64 a4] w fun e w' => ∃ v0_ : Value, e = .returned (.tuple #[v0_, .bool r2]) ∧ Kd.R k56 56 w' w.heap.size (fun _ => True) v0_ r1 ∧ Below w.heap.size w w' := by
  have hu65 := Try.underlying65
  have hu56 := Try.underlying56
  have HR0 := Aside0.mk hr0
  have HC0 := Aside0.mk hc0
  clear hr0 hc0
  have HR1 := Aside0.mk hr1
  have HC1 := Aside0.mk hc1
  clear hr1 hc1
  have HB := Aside0.mk (Below.refl w.heap.size w)
  have H : ((path_steps.f l0 l1 a2).bind fun bt139 => (if bt139.2 = true then ((path_asked.f k l0 a2 a2 a3 a4).bind fun t143 => (path_Walk.j0 k a3 a4 bt139.1 (!t143))) else (path_Walk.j0 k a3 a4 bt139.1 true))) = some (r1, r2) := h
  clear h
  replace H := Option.bind_eq_some_iff.mp H
  obtain ⟨⟨t139, t140⟩, A60, H⟩ := H
  replace H : (if t140 = true then ((path_asked.f k l0 a2 a2 a3 a4).bind fun t143 => (path_Walk.j0 k a3 a4 t139 (!t143))) else (path_Walk.j0 k a3 a4 t139 true)) = some (r1, r2) := H
  have A6 := Aside0.mk A60
  clear A60
  have HC7 := Aside0.mk H
  clear H
  go_enter Try.func51, Try.ntmps51
  go_upto_region 2 with (first | ((with_reducible refine gate_callee (f := 36) rfl ?_); refine goesL_ (some 24) rfl rfl Try.func36 (by kernel_rfl) rfl #[.slice A0 l0.length c0, .slice A1 l1.length c1, .int .i64 a2] rfl (by (try simp only [List.map_toArray, List.map_cons, List.map_nil]); first | done | rfl | (simp only [List.length_drop, List.length_take]; rfl)) ?_; (with_reducible refine (path_steps.calls _ _ l0 _ _ l1 a2 t139 t140 _ ?side1 ?side2 ?side3 ?side4 A6.out).mono ?_); (case side1 => repeat (first | exact HR0.out | (with_reducible refine Kd.C_alloc ?_ _) | (with_reducible refine Kd.C_drewN ?_ _) | (with_reducible refine Kd.C_drew ?_))); (case side2 => exact HC0.out); (case side3 => repeat (first | exact HR1.out | (with_reducible refine Kd.C_alloc ?_ _) | (with_reducible refine Kd.C_drewN ?_ _) | (with_reducible refine Kd.C_drew ?_))); (case side4 => exact HC1.out); rintro e w8 ⟨v141, rfl, ho0, hb⟩; refine ⟨_, rfl, ?_⟩; have n0_ := Aside0.mk (Kd.R_lower ho0 (below_size (by repeat (first | (with_reducible first | exact HB.out | apply below_alloc | apply pw_below_drewN | apply below_drew1) | exact HB.out)))); have n1_ := Aside0.mk (below_step (by repeat (first | (with_reducible first | exact HB.out | apply below_alloc | apply pw_below_drewN | apply below_drew1) | exact HB.out)) hb); clear HB; have HO142 := n0_; have HB := n1_; clear n0_ n1_; (try clear hb); (try clear hb2); (try clear hk); (try clear hi); (try clear ho0)))
  (try simp only [Act.put, List.setIfInBounds_toArray, List.set_cons_zero, List.set_cons_succ])
  go_cut [37] (fun v37 wc => ∃ (kq : Nat) (x37_6 : Bool), v37 = .bool x37_6 ∧ Aside0 (path_Walk.j0 kq a3 a4 t139 x37_6 = some (r1, r2)) ∧ Aside0 (kq ≤ k) ∧ Aside0 (Kd.R k65 65 wc w.heap.size (fun _ => True) v141 t139) ∧ Aside0 (Below w.heap.size w wc))
  case first =>
    have H := HC7.out
    clear HC7
    by_cases c9 : t140 = true
    · subst c9
      have H1 : ((path_asked.f k l0 a2 a2 a3 a4).bind fun t143 => (path_Walk.j0 k a3 a4 t139 (!t143))) = some (r1, r2) := by rw [if_pos rfl] at H; exact H
      clear H
      have H := H1
      clear H1
      replace H := Option.bind_eq_some_iff.mp H
      obtain ⟨t143, A100, H⟩ := H
      replace H : (path_Walk.j0 k a3 a4 t139 (!t143)) = some (r1, r2) := H
      have A10 := Aside0.mk A100
      clear A100
      have H' := Aside0.mk H
      clear H
      go_wp2_with (first | (go_at_call 35; (with_reducible refine (path_asked.calls k _ _ l0 a2 a2 a3 a4 t143 _ ?side1 ?side2 A10.out).mono ?_); (case side1 => repeat (first | exact (Kd.C_below HR0.out HB.out) | (with_reducible refine Kd.C_alloc ?_ _) | (with_reducible refine Kd.C_drewN ?_ _) | (with_reducible refine Kd.C_drew ?_))); (case side2 => exact HC0.out); rintro e w11 ⟨rfl, hb⟩; have n0_ := Aside0.mk (Kd.R_below (by (with_reducible repeat (first | apply Kd.R_alloc | apply Kd.R_drewN | apply Kd.R_drew)); exact HO142.out) hb); have n1_ := Aside0.mk (below_step (by repeat (first | (with_reducible first | exact HB.out | apply below_alloc | apply pw_below_drewN | apply below_drew1) | exact HB.out)) hb); clear HO142; clear HB; have HO142 := n0_; have HB := n1_; clear n0_ n1_; (try clear hb); (try clear hb2); (try clear hk); (try clear hi)))
      go_meet
      case rel => exact ⟨_, (!t143), (by first | rfl | (simp; done) | (simp [*]; done)), H', ⟨by first | omega | exact Nat.le_refl _⟩, ⟨by (with_reducible repeat (first | apply Kd.R_alloc | apply Kd.R_drewN | apply Kd.R_drew)); exact HO142.out⟩, ⟨by repeat (first | (with_reducible first | exact HB.out | apply below_alloc | apply pw_below_drewN | apply below_drew1) | exact HB.out)⟩⟩
    · replace c9 := Bool.eq_false_iff.mpr c9
      subst c9
      have H1 : (path_Walk.j0 k a3 a4 t139 true) = some (r1, r2) := by rw [if_neg (show ¬ (false = true) by decide)] at H; exact H
      clear H
      have H := H1
      clear H1
      have H' := Aside0.mk H
      clear H
      go_wp2
      go_meet
      case rel => exact ⟨_, (true), (by first | rfl | (simp; done) | (simp [*]; done)), H', ⟨by first | omega | exact Nat.le_refl _⟩, ⟨by (with_reducible repeat (first | apply Kd.R_alloc | apply Kd.R_drewN | apply Kd.R_drew)); exact HO142.out⟩, ⟨by repeat (first | (with_reducible first | exact HB.out | apply below_alloc | apply pw_below_drewN | apply below_drew1) | exact HB.out)⟩⟩
  case rest =>
    clear HC7
    try clear c1
    try clear p2
    try clear c3
    try clear c5
    try clear c9
    obtain ⟨kq, x37_6, rfl, HA, HJ6, HO_12, HB⟩ := hcut
    cases kq with
    | zero => exact absurd HA.out (by simp [path_Walk.j0])
    | succ kj6 =>
      have H := HA.out
      clear HA
      simp only [path_Walk.j0] at H
      by_cases c12 : x37_6 = true
      · subst c12
        have H1 : (some (([] : List (S56)), false)) = some (r1, r2) := by rw [if_pos rfl] at H; exact H
        clear H
        have H := H1
        clear H1
        simp only [Option.some.injEq, Prod.mk.injEq] at H
        obtain ⟨rfl, rfl⟩ := H
        go_wp2
        go_ret2
        exact ⟨_, by first | rfl | (simp [errW_none, errW_some] <;> rfl) | (simp [*, errW_none, errW_some] <;> rfl), by first | exact Kd.R_nil _ _ _ _ _ | exact Kd.N_nil _ _ _ _ _ | exact Kd.V_nil _ _ _ _ _ | exact Kd.Q_nil _ _ _ _ _ | exact Kd.S_nil _ _ _ _ _, by repeat (first | (with_reducible first | exact HB.out | apply below_alloc | apply pw_below_drewN | apply below_drew1) | exact HB.out)⟩
      · replace c12 := Bool.eq_false_iff.mpr c12
        subst c12
        have H1 : (path_Walk.l0 kj6 a3 a4 ([] : List (S56)) t139 (t139.length : Int) 0) = some (r1, r2) := by rw [if_neg (show ¬ (false = true) by decide)] at H; exact H
        clear H
        have H := H1
        clear H1
        have H' := Aside0.mk H
        clear H
        obtain ⟨Ao13, co13, eo13⟩ := Kd.R_slice HO_12.out
        subst eo13
        go_wp2
        go_loopg [3, 14, 40] kj6 (fun kq v3 v14 v40 w' => ∃ (x3_2 : Int) (x14_2 : List (S56)) (x40_2 : Int), v3 = .int .i64 x3_2 ∧ v40 = .int .i64 x40_2 ∧ Aside0 (path_Walk.l0 kq x3_2 a4 x14_2 t139 (t139.length : Int) x40_2 = some (r1, r2)) ∧ Aside0 (kq ≤ kj6) ∧ Aside0 (Kd.R k56 56 w' w.heap.size (fun _ => True) v14 x14_2) ∧ Aside0 (Kd.R k65 65 w' w.heap.size (fun _ => True) (.slice Ao13 t139.length co13) t139) ∧ Aside0 (Below w.heap.size w w'))
        case atStart => exact ⟨(a3), (([] : List (S56))), (0), (by first | rfl | (simp; done) | (simp [*]; done)), (by first | rfl | (simp; done) | (simp [*]; done)), H', ⟨Nat.le_refl _⟩, ⟨by first | exact Kd.R_nil _ _ _ _ _ | exact Kd.N_nil _ _ _ _ _ | exact Kd.V_nil _ _ _ _ _ | exact Kd.Q_nil _ _ _ _ _ | exact Kd.S_nil _ _ _ _ _⟩, ⟨by (with_reducible repeat (first | apply Kd.R_alloc | apply Kd.R_drewN | apply Kd.R_drew)); exact HO_12.out⟩, ⟨by repeat (first | (with_reducible first | exact HB.out | apply below_alloc | apply pw_below_drewN | apply below_drew1) | exact HB.out)⟩⟩
        case round =>
          clear H'
          try clear c1
          try clear p2
          try clear c3
          try clear c5
          try clear c9
          try clear c12
          try clear p2
          obtain ⟨x3_2, x14_2, x40_2, rfl, rfl, HA, HK2, HO_14, HO_38, HB⟩ := hrel
          cases gk with
          | zero => exact absurd HA.out (by simp [path_Walk.l0])
          | succ k2 =>
            have H := HA.out
            clear HA
            simp only [path_Walk.l0] at H
            by_cases c14 : x40_2 < (t139.length : Int)
            · rw [if_pos c14] at H
              have c14b0 : decide (x40_2 < (t139.length : Int)) = true := decide_eq_true c14
              clear c14
              by_cases c15 : 0 ≤ x40_2
              · rw [if_pos c15] at H
                have c15b0 : decide (0 ≤ x40_2) = true := decide_eq_true c15
                clear c15
                by_cases c16 : x40_2 < (t139.length : Int)
                · rw [if_pos c16] at H
                  have c16b0 : decide (x40_2 < (t139.length : Int)) = true := decide_eq_true c16
                  clear c16
                  replace H := Option.bind_eq_some_iff.mp H
                  obtain ⟨⟨t146, t147, t148⟩, A170, H⟩ := H
                  replace H : (if t148 = true then (if x14_2.length < 5864062014805 then (path_Walk.l0 k2 t147 a4 (x14_2 ++ [(⟨(rd_T65 t139 x40_2).f0, t146, t147⟩ : S56)]) t139 (t139.length : Int) (wrap64 (x40_2 + 1))) else (none)) else (some (([] : List (S56)), false))) = some (r1, r2) := H
                  have A17 := Aside0.mk A170
                  clear A170
                  by_cases c18 : t148 = true
                  · subst c18
                    have H1 : (if x14_2.length < 5864062014805 then (path_Walk.l0 k2 t147 a4 (x14_2 ++ [(⟨(rd_T65 t139 x40_2).f0, t146, t147⟩ : S56)]) t139 (t139.length : Int) (wrap64 (x40_2 + 1))) else (none)) = some (r1, r2) := by rw [if_pos rfl] at H; exact H
                    clear H
                    have H := H1
                    clear H1
                    by_cases c19 : x14_2.length < 5864062014805
                    · rw [if_pos c19] at H
                      have LMc19 := Aside0.mk c19
                      clear c19
                      obtain ⟨y149, hy149⟩ : ∃ y_ : List (S56), y_ = (x14_2 ++ [(⟨(rd_T65 t139 x40_2).f0, t146, t147⟩ : S56)]) := ⟨_, rfl⟩
                      replace H : (path_Walk.l0 k2 t147 a4 y149 t139 (t139.length : Int) (wrap64 (x40_2 + 1))) = some (r1, r2) := by first | (rw [hy149]; with_reducible exact H) | (have H2_ := (Option.bind_some _ _).symm.trans H; rw [hy149]; with_reducible exact H2_) | (have H2_ := (Option.bind_some _ _).symm.trans H; with_reducible exact H2_) | with_reducible exact H | (rw [hy149]; exact H) | exact H
                      have Ny149 := Aside0.mk hy149
                      clear hy149
                      have H' := Aside0.mk H
                      clear H
                      have p144 : 0 ≤ (x40_2 : Int) := of_decide_eq_true (by first | (with_reducible assumption) | assumption)
                      have q144 : x40_2 < (t139.length : Int) := of_decide_eq_true (by first | (with_reducible assumption) | assumption)
                      obtain ⟨ad144, e144, hx144_0, hx144_1, hx144_2, hx144_3, hx144_4, hx144_5, hx144_6, hx144_7⟩ := at_T65 (Kd.R_reads' HO_38.out).2.2 x40_2 p144 q144
                      cases e144
                      replace p144 := eq_true p144
                      replace q144 := eq_true q144
                      go_wp2_with (first | ((with_reducible refine gate_dst (N := 16) rfl ?_); refine box_event ?hg (N := 16) ?hd (cs := #[.int .i64 0, .int .i64 0, .int .i64 0, .int .i64 0, .int .i64 0, .int .i64 0, .int .i64 0, .int .i64 0]) (t := 65) ?hr ?_; (case hd => rfl); (case hg => rfl); (case hr => first | (go_simp; done) | (go_simp; rfl)); intro gb145 hg w20 hbox hb; have n0_ := Aside0.mk (Kd.R_below (by (with_reducible repeat (first | apply Kd.R_alloc | apply Kd.R_drewN | apply Kd.R_drew)); exact HO_14.out) hb); have n1_ := Aside0.mk (Kd.R_below (Kd.R_elderB (by (with_reducible repeat (first | apply Kd.R_alloc | apply Kd.R_drewN | apply Kd.R_drew)); exact HO_38.out) gb145 (Nat.le_of_eq hg.symm)) hb); have n2_ := Aside0.mk (below_step (by repeat (first | (with_reducible first | exact HB.out | apply below_alloc | apply pw_below_drewN | apply below_drew1) | exact HB.out)) hb); have n3_ := Aside0.mk (hbox); have n4_ := Aside0.mk ((by rw [hg]; exact (below_size (by repeat (first | (with_reducible first | exact HB.out | apply below_alloc | apply pw_below_drewN | apply below_drew1) | exact HB.out))) : w.heap.size ≤ gb145)); have n5_ := Aside0.mk ((by rw [hg]; exact (below_size (by repeat (first | (with_reducible first | exact HB.out | apply below_alloc | apply pw_below_drewN | apply below_drew1) | exact HB.out))) : w.heap.size ≤ gb145)); clear HO_14; clear HO_38; clear HB; have HO_14 := n0_; have HO_38 := n1_; have HB := n2_; have BK145 := n3_; have GW145 := n4_; have GE145 := n5_; clear n0_ n1_ n2_ n3_ n4_ n5_; clear hb hbox hg; have hcz21_0 : w20.cell? ⟨gb145, 0, none⟩ = some (.int .i64 0) := (blk_cell BK145.out 0).trans rfl; have hcz21_1 : w20.cell? ⟨gb145, 1, none⟩ = some (.int .i64 0) := (blk_cell BK145.out 1).trans rfl; have hcz21_2 : w20.cell? ⟨gb145, 2, none⟩ = some (.int .i64 0) := (blk_cell BK145.out 2).trans rfl; have hcz21_3 : w20.cell? ⟨gb145, 3, none⟩ = some (.int .i64 0) := (blk_cell BK145.out 3).trans rfl; have hcz21_4 : w20.cell? ⟨gb145, 4, none⟩ = some (.int .i64 0) := (blk_cell BK145.out 4).trans rfl; have hcz21_5 : w20.cell? ⟨gb145, 5, none⟩ = some (.int .i64 0) := (blk_cell BK145.out 5).trans rfl; have hcz21_6 : w20.cell? ⟨gb145, 6, none⟩ = some (.int .i64 0) := (blk_cell BK145.out 6).trans rfl; have hcz21_7 : w20.cell? ⟨gb145, 7, none⟩ = some (.int .i64 0) := (blk_cell BK145.out 7).trans rfl; have hfz21_0 := blk_frozen BK145.out 0; have hfz21_1 := blk_frozen BK145.out 1; have hfz21_2 := blk_frozen BK145.out 2; have hfz21_3 := blk_frozen BK145.out 3; have hfz21_4 := blk_frozen BK145.out 4; have hfz21_5 := blk_frozen BK145.out 5; have hfz21_6 := blk_frozen BK145.out 6; have hfz21_7 := blk_frozen BK145.out 7) | ((with_reducible refine gate_callee (f := 46) rfl ?_); refine goesL_ (some 48) rfl rfl Try.func46 (by kernel_rfl) rfl #[.agg #[.int .i64 ((rd_T65 t139 x40_2).f0), .int .i64 ((rd_T65 t139 x40_2).f1), .int .i64 ((rd_T65 t139 x40_2).f2), .int .i64 ((rd_T65 t139 x40_2).f3), .int .i64 ((rd_T65 t139 x40_2).f4), .int .i64 ((rd_T65 t139 x40_2).f5), .int .i64 ((rd_T65 t139 x40_2).f6), .int .i64 ((rd_T65 t139 x40_2).f7)], .int .i64 x3_2, .int .i64 a4] rfl (by (try simp only [List.map_toArray, List.map_cons, List.map_nil]); first | done | rfl | (simp only [List.length_drop, List.length_take]; rfl)) ?_; (with_reducible refine (hop_Pass.calls k2 ((rd_T65 t139 x40_2).f0) ((rd_T65 t139 x40_2).f1) ((rd_T65 t139 x40_2).f2) ((rd_T65 t139 x40_2).f3) ((rd_T65 t139 x40_2).f4) ((rd_T65 t139 x40_2).f5) ((rd_T65 t139 x40_2).f6) ((rd_T65 t139 x40_2).f7) x3_2 a4 t146 t147 true _ A17.out).mono ?_); rintro e w22 ⟨rfl, hb⟩; refine ⟨_, rfl, ?_⟩; have n0_ := Aside0.mk (Kd.R_below (by (with_reducible repeat (first | apply Kd.R_alloc | apply Kd.R_drewN | apply Kd.R_drew)); exact (Kd.R_mono (Kd.R_far (p := ⟨gb145, 7, none⟩) (Kd.R_far (p := ⟨gb145, 6, none⟩) (Kd.R_far (p := ⟨gb145, 5, none⟩) (Kd.R_far (p := ⟨gb145, 4, none⟩) (Kd.R_far (p := ⟨gb145, 3, none⟩) (Kd.R_far (p := ⟨gb145, 2, none⟩) (Kd.R_far (p := ⟨gb145, 1, none⟩) (Kd.R_far (p := ⟨gb145, 0, none⟩) (Kd.R_types HO_14.out BK145.out (by decide)) (fun _ hk => hk.2) (.int .i64 ((rd_T65 t139 x40_2).f0))) (fun _ hk => hk.2) (.int .i64 ((rd_T65 t139 x40_2).f1))) (fun _ hk => hk.2) (.int .i64 ((rd_T65 t139 x40_2).f2))) (fun _ hk => hk.2) (.int .i64 ((rd_T65 t139 x40_2).f3))) (fun _ hk => hk.2) (.int .i64 ((rd_T65 t139 x40_2).f4))) (fun _ hk => hk.2) (.int .i64 ((rd_T65 t139 x40_2).f5))) (fun _ hk => hk.2) (.int .i64 ((rd_T65 t139 x40_2).f6))) (fun _ hk => hk.2) (.int .i64 ((rd_T65 t139 x40_2).f7))) (fun _ h_ => h_.1))) hb); have n1_ := Aside0.mk (Kd.R_below (by (with_reducible repeat (first | apply Kd.R_alloc | apply Kd.R_drewN | apply Kd.R_drew)); exact (Kd.R_mono (Kd.R_far (p := ⟨gb145, 7, none⟩) (Kd.R_far (p := ⟨gb145, 6, none⟩) (Kd.R_far (p := ⟨gb145, 5, none⟩) (Kd.R_far (p := ⟨gb145, 4, none⟩) (Kd.R_far (p := ⟨gb145, 3, none⟩) (Kd.R_far (p := ⟨gb145, 2, none⟩) (Kd.R_far (p := ⟨gb145, 1, none⟩) (Kd.R_far (p := ⟨gb145, 0, none⟩) (Kd.R_mono HO_38.out (fun k_ hk => (⟨hk, hk.2⟩ : _ ∧ k_ ≠ gb145))) (fun _ hk => hk.2) (.int .i64 ((rd_T65 t139 x40_2).f0))) (fun _ hk => hk.2) (.int .i64 ((rd_T65 t139 x40_2).f1))) (fun _ hk => hk.2) (.int .i64 ((rd_T65 t139 x40_2).f2))) (fun _ hk => hk.2) (.int .i64 ((rd_T65 t139 x40_2).f3))) (fun _ hk => hk.2) (.int .i64 ((rd_T65 t139 x40_2).f4))) (fun _ hk => hk.2) (.int .i64 ((rd_T65 t139 x40_2).f5))) (fun _ hk => hk.2) (.int .i64 ((rd_T65 t139 x40_2).f6))) (fun _ hk => hk.2) (.int .i64 ((rd_T65 t139 x40_2).f7))) (fun _ h_ => h_.1))) hb); have n2_ := Aside0.mk (blk_below (g := gb145) (o := .cells #[.int .i64 ((rd_T65 t139 x40_2).f0), .int .i64 ((rd_T65 t139 x40_2).f1), .int .i64 ((rd_T65 t139 x40_2).f2), .int .i64 ((rd_T65 t139 x40_2).f3), .int .i64 ((rd_T65 t139 x40_2).f4), .int .i64 ((rd_T65 t139 x40_2).f5), .int .i64 ((rd_T65 t139 x40_2).f6), .int .i64 ((rd_T65 t139 x40_2).f7)] 65 (0, 0)) (by (with_reducible repeat (first | refine blk_drewN ?_ _ | refine blk_drew ?_ | refine blk_alloc ?_ _)); refine blk_put (cs := #[.int .i64 ((rd_T65 t139 x40_2).f0), .int .i64 ((rd_T65 t139 x40_2).f1), .int .i64 ((rd_T65 t139 x40_2).f2), .int .i64 ((rd_T65 t139 x40_2).f3), .int .i64 ((rd_T65 t139 x40_2).f4), .int .i64 ((rd_T65 t139 x40_2).f5), .int .i64 ((rd_T65 t139 x40_2).f6), .int .i64 0]) ?_ 7 _ rfl; (with_reducible repeat (first | refine blk_drewN ?_ _ | refine blk_drew ?_ | refine blk_alloc ?_ _)); refine blk_put (cs := #[.int .i64 ((rd_T65 t139 x40_2).f0), .int .i64 ((rd_T65 t139 x40_2).f1), .int .i64 ((rd_T65 t139 x40_2).f2), .int .i64 ((rd_T65 t139 x40_2).f3), .int .i64 ((rd_T65 t139 x40_2).f4), .int .i64 ((rd_T65 t139 x40_2).f5), .int .i64 0, .int .i64 0]) ?_ 6 _ rfl; (with_reducible repeat (first | refine blk_drewN ?_ _ | refine blk_drew ?_ | refine blk_alloc ?_ _)); refine blk_put (cs := #[.int .i64 ((rd_T65 t139 x40_2).f0), .int .i64 ((rd_T65 t139 x40_2).f1), .int .i64 ((rd_T65 t139 x40_2).f2), .int .i64 ((rd_T65 t139 x40_2).f3), .int .i64 ((rd_T65 t139 x40_2).f4), .int .i64 0, .int .i64 0, .int .i64 0]) ?_ 5 _ rfl; (with_reducible repeat (first | refine blk_drewN ?_ _ | refine blk_drew ?_ | refine blk_alloc ?_ _)); refine blk_put (cs := #[.int .i64 ((rd_T65 t139 x40_2).f0), .int .i64 ((rd_T65 t139 x40_2).f1), .int .i64 ((rd_T65 t139 x40_2).f2), .int .i64 ((rd_T65 t139 x40_2).f3), .int .i64 0, .int .i64 0, .int .i64 0, .int .i64 0]) ?_ 4 _ rfl; (with_reducible repeat (first | refine blk_drewN ?_ _ | refine blk_drew ?_ | refine blk_alloc ?_ _)); refine blk_put (cs := #[.int .i64 ((rd_T65 t139 x40_2).f0), .int .i64 ((rd_T65 t139 x40_2).f1), .int .i64 ((rd_T65 t139 x40_2).f2), .int .i64 0, .int .i64 0, .int .i64 0, .int .i64 0, .int .i64 0]) ?_ 3 _ rfl; (with_reducible repeat (first | refine blk_drewN ?_ _ | refine blk_drew ?_ | refine blk_alloc ?_ _)); refine blk_put (cs := #[.int .i64 ((rd_T65 t139 x40_2).f0), .int .i64 ((rd_T65 t139 x40_2).f1), .int .i64 0, .int .i64 0, .int .i64 0, .int .i64 0, .int .i64 0, .int .i64 0]) ?_ 2 _ rfl; (with_reducible repeat (first | refine blk_drewN ?_ _ | refine blk_drew ?_ | refine blk_alloc ?_ _)); refine blk_put (cs := #[.int .i64 ((rd_T65 t139 x40_2).f0), .int .i64 0, .int .i64 0, .int .i64 0, .int .i64 0, .int .i64 0, .int .i64 0, .int .i64 0]) ?_ 1 _ rfl; (with_reducible repeat (first | refine blk_drewN ?_ _ | refine blk_drew ?_ | refine blk_alloc ?_ _)); refine blk_put (cs := #[.int .i64 0, .int .i64 0, .int .i64 0, .int .i64 0, .int .i64 0, .int .i64 0, .int .i64 0, .int .i64 0]) ?_ 0 _ rfl; (with_reducible repeat (first | refine blk_drewN ?_ _ | refine blk_drew ?_ | refine blk_alloc ?_ _)); exact BK145.out) hb); have n3_ := Aside0.mk (below_step (by repeat (first | (with_reducible first | exact HB.out | apply below_alloc | apply pw_below_drewN | apply below_drew1 | refine below_set ?_ GE145.out) | exact HB.out)) hb); clear HO_14; clear HO_38; clear BK145; clear HB; have HO_14 := n0_; have HO_38 := n1_; have BK145 := n2_; have HB := n3_; clear n0_ n1_ n2_ n3_; (try clear hb); (try clear hb2); (try clear hk); (try clear hi); have hcz23_0 : w22.cell? ⟨gb145, 0, none⟩ = some (.int .i64 ((rd_T65 t139 x40_2).f0)) := (blk_cell BK145.out 0).trans rfl; have hcz23_1 : w22.cell? ⟨gb145, 1, none⟩ = some (.int .i64 ((rd_T65 t139 x40_2).f1)) := (blk_cell BK145.out 1).trans rfl; have hcz23_2 : w22.cell? ⟨gb145, 2, none⟩ = some (.int .i64 ((rd_T65 t139 x40_2).f2)) := (blk_cell BK145.out 2).trans rfl; have hcz23_3 : w22.cell? ⟨gb145, 3, none⟩ = some (.int .i64 ((rd_T65 t139 x40_2).f3)) := (blk_cell BK145.out 3).trans rfl; have hcz23_4 : w22.cell? ⟨gb145, 4, none⟩ = some (.int .i64 ((rd_T65 t139 x40_2).f4)) := (blk_cell BK145.out 4).trans rfl; have hcz23_5 : w22.cell? ⟨gb145, 5, none⟩ = some (.int .i64 ((rd_T65 t139 x40_2).f5)) := (blk_cell BK145.out 5).trans rfl; have hcz23_6 : w22.cell? ⟨gb145, 6, none⟩ = some (.int .i64 ((rd_T65 t139 x40_2).f6)) := (blk_cell BK145.out 6).trans rfl; have hcz23_7 : w22.cell? ⟨gb145, 7, none⟩ = some (.int .i64 ((rd_T65 t139 x40_2).f7)) := (blk_cell BK145.out 7).trans rfl; have hfz23_0 := blk_frozen BK145.out 0; have hfz23_1 := blk_frozen BK145.out 1; have hfz23_2 := blk_frozen BK145.out 2; have hfz23_3 := blk_frozen BK145.out 3; have hfz23_4 := blk_frozen BK145.out 4; have hfz23_5 := blk_frozen BK145.out 5; have hfz23_6 := blk_frozen BK145.out 6; have hfz23_7 := blk_frozen BK145.out 7) | ((with_reducible refine gate_builtin (b := .append) (xs := #[.tmp 54, .tmp 60]) rfl ?_); at_builtin; refine Kd.R_append k56 (w0 := w) w.heap.size rfl (.tmp 54) (.tmp 60) 25 56 (.agg #[(.int .i64 0), (.int .i64 0), (.int .i64 0)]) 24 rfl Try.underlying25 info56 rfl (by decide) (by omega) u14 x14_2 (⟨(rd_T65 t139 x40_2).f0, t146, t147⟩ : S56) [.int .i64 ((rd_T65 t139 x40_2).f0), .int .i64 t146, .int .i64 t147] (fun _ => True) (fun _ => False) rfl rfl ?aP (fun _ hk => hk.elim) ?aF ?aO ?aB ?aS ?aL ?_; (case aP => exact k56_mkM _ _ _ (⟨(rd_T65 t139 x40_2).f0, t146, t147⟩ : S56)); (case aB => exact (by repeat (first | (with_reducible first | exact HB.out | apply below_alloc | apply pw_below_drewN | apply below_drew1 | refine below_set ?_ GE145.out) | exact HB.out))); (case aF => exact (fun _ _ => trivial)); (case aO => exact (by (with_reducible repeat (first | apply Kd.R_alloc | apply Kd.R_drewN | apply Kd.R_drew)); exact HO_14.out)); (case aS => exact (below_size (by repeat (first | (with_reducible first | exact HB.out | apply below_alloc | apply pw_below_drewN | apply below_drew1 | refine below_set ?_ GE145.out) | exact HB.out)))); (case aL => have := LMc19.out; omega); intro v150 w24 ho hb hg hat; rw [← Ny149.out] at ho; have n0_ := Aside0.mk (Kd.R_over' (by (with_reducible repeat (first | apply Kd.R_alloc | apply Kd.R_drewN | apply Kd.R_drew)); exact HO_38.out) (Kd.R_typed (by (with_reducible repeat (first | apply Kd.R_alloc | apply Kd.R_drewN | apply Kd.R_drew)); exact HO_14.out)) (by decide) hg); have n1_ := Aside0.mk (blk_grown (g := gb145) (o := .cells #[.int .i64 ((rd_T65 t139 x40_2).f0), .int .i64 ((rd_T65 t139 x40_2).f1), .int .i64 ((rd_T65 t139 x40_2).f2), .int .i64 ((rd_T65 t139 x40_2).f3), .int .i64 ((rd_T65 t139 x40_2).f4), .int .i64 ((rd_T65 t139 x40_2).f5), .int .i64 ((rd_T65 t139 x40_2).f6), .int .i64 ((rd_T65 t139 x40_2).f7)] 65 (0, 0)) (by (with_reducible repeat (first | refine blk_drewN ?_ _ | refine blk_drew ?_ | refine blk_alloc ?_ _)); exact BK145.out) hg (Kd.R_ne HO_14.out BK145.out (by decide))); have n2_ := Aside0.mk (hb); have n3_ := Aside0.mk (ho); clear HO_38; clear BK145; clear HB; clear HO_14; have HO_38 := n0_; have BK145 := n1_; have HB := n2_; have HO151 := n3_; clear n0_ n1_ n2_ n3_; clear ho hb hg hat))
                      go_roundg k2
                      case measure => have := HJ6.out; have := HK2.out; omega
                      case rel => exact ⟨(t147), (y149), (wrap64 (x40_2 + 1)), (by first | rfl | (simp; done) | (simp [*]; done)), (by first | rfl | (simp; done) | (simp [*]; done)), H', ⟨by have := HJ6.out; have := HK2.out; omega⟩, ⟨by (with_reducible repeat (first | apply Kd.R_alloc | apply Kd.R_drewN | apply Kd.R_drew)); exact HO151.out⟩, ⟨by (with_reducible repeat (first | apply Kd.R_alloc | apply Kd.R_drewN | apply Kd.R_drew)); exact Kd.R_mono HO_38.out (fun _ hk => trivial)⟩, ⟨by repeat (first | (with_reducible first | exact HB.out | apply below_alloc | apply pw_below_drewN | apply below_drew1 | refine below_set ?_ GE145.out) | exact HB.out)⟩⟩
                    · rw [if_neg c19] at H
                      exact absurd H (by simp)
                  · replace c18 := Bool.eq_false_iff.mpr c18
                    subst c18
                    have H1 : (some (([] : List (S56)), false)) = some (r1, r2) := by rw [if_neg (show ¬ (false = true) by decide)] at H; exact H
                    clear H
                    have H := H1
                    clear H1
                    simp only [Option.some.injEq, Prod.mk.injEq] at H
                    obtain ⟨rfl, rfl⟩ := H
                    have p144 : 0 ≤ (x40_2 : Int) := of_decide_eq_true (by first | (with_reducible assumption) | assumption)
                    have q144 : x40_2 < (t139.length : Int) := of_decide_eq_true (by first | (with_reducible assumption) | assumption)
                    obtain ⟨ad144, e144, hx144_0, hx144_1, hx144_2, hx144_3, hx144_4, hx144_5, hx144_6, hx144_7⟩ := at_T65 (Kd.R_reads' HO_38.out).2.2 x40_2 p144 q144
                    cases e144
                    replace p144 := eq_true p144
                    replace q144 := eq_true q144
                    go_wp2_with (first | ((with_reducible refine gate_dst (N := 16) rfl ?_); refine box_event ?hg (N := 16) ?hd (cs := #[.int .i64 0, .int .i64 0, .int .i64 0, .int .i64 0, .int .i64 0, .int .i64 0, .int .i64 0, .int .i64 0]) (t := 65) ?hr ?_; (case hd => rfl); (case hg => rfl); (case hr => first | (go_simp; done) | (go_simp; rfl)); intro gb145 hg w25 hbox hb; have n0_ := Aside0.mk (Kd.R_below (by (with_reducible repeat (first | apply Kd.R_alloc | apply Kd.R_drewN | apply Kd.R_drew)); exact HO_14.out) hb); have n1_ := Aside0.mk (Kd.R_below (Kd.R_elderB (by (with_reducible repeat (first | apply Kd.R_alloc | apply Kd.R_drewN | apply Kd.R_drew)); exact HO_38.out) gb145 (Nat.le_of_eq hg.symm)) hb); have n2_ := Aside0.mk (below_step (by repeat (first | (with_reducible first | exact HB.out | apply below_alloc | apply pw_below_drewN | apply below_drew1) | exact HB.out)) hb); have n3_ := Aside0.mk (hbox); have n4_ := Aside0.mk ((by rw [hg]; exact (below_size (by repeat (first | (with_reducible first | exact HB.out | apply below_alloc | apply pw_below_drewN | apply below_drew1) | exact HB.out))) : w.heap.size ≤ gb145)); have n5_ := Aside0.mk ((by rw [hg]; exact (below_size (by repeat (first | (with_reducible first | exact HB.out | apply below_alloc | apply pw_below_drewN | apply below_drew1) | exact HB.out))) : w.heap.size ≤ gb145)); clear HO_14; clear HO_38; clear HB; have HO_14 := n0_; have HO_38 := n1_; have HB := n2_; have BK145 := n3_; have GW145 := n4_; have GE145 := n5_; clear n0_ n1_ n2_ n3_ n4_ n5_; clear hb hbox hg; have hcz26_0 : w25.cell? ⟨gb145, 0, none⟩ = some (.int .i64 0) := (blk_cell BK145.out 0).trans rfl; have hcz26_1 : w25.cell? ⟨gb145, 1, none⟩ = some (.int .i64 0) := (blk_cell BK145.out 1).trans rfl; have hcz26_2 : w25.cell? ⟨gb145, 2, none⟩ = some (.int .i64 0) := (blk_cell BK145.out 2).trans rfl; have hcz26_3 : w25.cell? ⟨gb145, 3, none⟩ = some (.int .i64 0) := (blk_cell BK145.out 3).trans rfl; have hcz26_4 : w25.cell? ⟨gb145, 4, none⟩ = some (.int .i64 0) := (blk_cell BK145.out 4).trans rfl; have hcz26_5 : w25.cell? ⟨gb145, 5, none⟩ = some (.int .i64 0) := (blk_cell BK145.out 5).trans rfl; have hcz26_6 : w25.cell? ⟨gb145, 6, none⟩ = some (.int .i64 0) := (blk_cell BK145.out 6).trans rfl; have hcz26_7 : w25.cell? ⟨gb145, 7, none⟩ = some (.int .i64 0) := (blk_cell BK145.out 7).trans rfl; have hfz26_0 := blk_frozen BK145.out 0; have hfz26_1 := blk_frozen BK145.out 1; have hfz26_2 := blk_frozen BK145.out 2; have hfz26_3 := blk_frozen BK145.out 3; have hfz26_4 := blk_frozen BK145.out 4; have hfz26_5 := blk_frozen BK145.out 5; have hfz26_6 := blk_frozen BK145.out 6; have hfz26_7 := blk_frozen BK145.out 7) | ((with_reducible refine gate_callee (f := 46) rfl ?_); refine goesL_ (some 48) rfl rfl Try.func46 (by kernel_rfl) rfl #[.agg #[.int .i64 ((rd_T65 t139 x40_2).f0), .int .i64 ((rd_T65 t139 x40_2).f1), .int .i64 ((rd_T65 t139 x40_2).f2), .int .i64 ((rd_T65 t139 x40_2).f3), .int .i64 ((rd_T65 t139 x40_2).f4), .int .i64 ((rd_T65 t139 x40_2).f5), .int .i64 ((rd_T65 t139 x40_2).f6), .int .i64 ((rd_T65 t139 x40_2).f7)], .int .i64 x3_2, .int .i64 a4] rfl (by (try simp only [List.map_toArray, List.map_cons, List.map_nil]); first | done | rfl | (simp only [List.length_drop, List.length_take]; rfl)) ?_; (with_reducible refine (hop_Pass.calls k2 ((rd_T65 t139 x40_2).f0) ((rd_T65 t139 x40_2).f1) ((rd_T65 t139 x40_2).f2) ((rd_T65 t139 x40_2).f3) ((rd_T65 t139 x40_2).f4) ((rd_T65 t139 x40_2).f5) ((rd_T65 t139 x40_2).f6) ((rd_T65 t139 x40_2).f7) x3_2 a4 t146 t147 false _ A17.out).mono ?_); rintro e w27 ⟨rfl, hb⟩; refine ⟨_, rfl, ?_⟩; have n0_ := Aside0.mk (Kd.R_below (by (with_reducible repeat (first | apply Kd.R_alloc | apply Kd.R_drewN | apply Kd.R_drew)); exact (Kd.R_mono (Kd.R_far (p := ⟨gb145, 7, none⟩) (Kd.R_far (p := ⟨gb145, 6, none⟩) (Kd.R_far (p := ⟨gb145, 5, none⟩) (Kd.R_far (p := ⟨gb145, 4, none⟩) (Kd.R_far (p := ⟨gb145, 3, none⟩) (Kd.R_far (p := ⟨gb145, 2, none⟩) (Kd.R_far (p := ⟨gb145, 1, none⟩) (Kd.R_far (p := ⟨gb145, 0, none⟩) (Kd.R_types HO_14.out BK145.out (by decide)) (fun _ hk => hk.2) (.int .i64 ((rd_T65 t139 x40_2).f0))) (fun _ hk => hk.2) (.int .i64 ((rd_T65 t139 x40_2).f1))) (fun _ hk => hk.2) (.int .i64 ((rd_T65 t139 x40_2).f2))) (fun _ hk => hk.2) (.int .i64 ((rd_T65 t139 x40_2).f3))) (fun _ hk => hk.2) (.int .i64 ((rd_T65 t139 x40_2).f4))) (fun _ hk => hk.2) (.int .i64 ((rd_T65 t139 x40_2).f5))) (fun _ hk => hk.2) (.int .i64 ((rd_T65 t139 x40_2).f6))) (fun _ hk => hk.2) (.int .i64 ((rd_T65 t139 x40_2).f7))) (fun _ h_ => h_.1))) hb); have n1_ := Aside0.mk (Kd.R_below (by (with_reducible repeat (first | apply Kd.R_alloc | apply Kd.R_drewN | apply Kd.R_drew)); exact (Kd.R_mono (Kd.R_far (p := ⟨gb145, 7, none⟩) (Kd.R_far (p := ⟨gb145, 6, none⟩) (Kd.R_far (p := ⟨gb145, 5, none⟩) (Kd.R_far (p := ⟨gb145, 4, none⟩) (Kd.R_far (p := ⟨gb145, 3, none⟩) (Kd.R_far (p := ⟨gb145, 2, none⟩) (Kd.R_far (p := ⟨gb145, 1, none⟩) (Kd.R_far (p := ⟨gb145, 0, none⟩) (Kd.R_mono HO_38.out (fun k_ hk => (⟨hk, hk.2⟩ : _ ∧ k_ ≠ gb145))) (fun _ hk => hk.2) (.int .i64 ((rd_T65 t139 x40_2).f0))) (fun _ hk => hk.2) (.int .i64 ((rd_T65 t139 x40_2).f1))) (fun _ hk => hk.2) (.int .i64 ((rd_T65 t139 x40_2).f2))) (fun _ hk => hk.2) (.int .i64 ((rd_T65 t139 x40_2).f3))) (fun _ hk => hk.2) (.int .i64 ((rd_T65 t139 x40_2).f4))) (fun _ hk => hk.2) (.int .i64 ((rd_T65 t139 x40_2).f5))) (fun _ hk => hk.2) (.int .i64 ((rd_T65 t139 x40_2).f6))) (fun _ hk => hk.2) (.int .i64 ((rd_T65 t139 x40_2).f7))) (fun _ h_ => h_.1))) hb); have n2_ := Aside0.mk (blk_below (g := gb145) (o := .cells #[.int .i64 ((rd_T65 t139 x40_2).f0), .int .i64 ((rd_T65 t139 x40_2).f1), .int .i64 ((rd_T65 t139 x40_2).f2), .int .i64 ((rd_T65 t139 x40_2).f3), .int .i64 ((rd_T65 t139 x40_2).f4), .int .i64 ((rd_T65 t139 x40_2).f5), .int .i64 ((rd_T65 t139 x40_2).f6), .int .i64 ((rd_T65 t139 x40_2).f7)] 65 (0, 0)) (by (with_reducible repeat (first | refine blk_drewN ?_ _ | refine blk_drew ?_ | refine blk_alloc ?_ _)); refine blk_put (cs := #[.int .i64 ((rd_T65 t139 x40_2).f0), .int .i64 ((rd_T65 t139 x40_2).f1), .int .i64 ((rd_T65 t139 x40_2).f2), .int .i64 ((rd_T65 t139 x40_2).f3), .int .i64 ((rd_T65 t139 x40_2).f4), .int .i64 ((rd_T65 t139 x40_2).f5), .int .i64 ((rd_T65 t139 x40_2).f6), .int .i64 0]) ?_ 7 _ rfl; (with_reducible repeat (first | refine blk_drewN ?_ _ | refine blk_drew ?_ | refine blk_alloc ?_ _)); refine blk_put (cs := #[.int .i64 ((rd_T65 t139 x40_2).f0), .int .i64 ((rd_T65 t139 x40_2).f1), .int .i64 ((rd_T65 t139 x40_2).f2), .int .i64 ((rd_T65 t139 x40_2).f3), .int .i64 ((rd_T65 t139 x40_2).f4), .int .i64 ((rd_T65 t139 x40_2).f5), .int .i64 0, .int .i64 0]) ?_ 6 _ rfl; (with_reducible repeat (first | refine blk_drewN ?_ _ | refine blk_drew ?_ | refine blk_alloc ?_ _)); refine blk_put (cs := #[.int .i64 ((rd_T65 t139 x40_2).f0), .int .i64 ((rd_T65 t139 x40_2).f1), .int .i64 ((rd_T65 t139 x40_2).f2), .int .i64 ((rd_T65 t139 x40_2).f3), .int .i64 ((rd_T65 t139 x40_2).f4), .int .i64 0, .int .i64 0, .int .i64 0]) ?_ 5 _ rfl; (with_reducible repeat (first | refine blk_drewN ?_ _ | refine blk_drew ?_ | refine blk_alloc ?_ _)); refine blk_put (cs := #[.int .i64 ((rd_T65 t139 x40_2).f0), .int .i64 ((rd_T65 t139 x40_2).f1), .int .i64 ((rd_T65 t139 x40_2).f2), .int .i64 ((rd_T65 t139 x40_2).f3), .int .i64 0, .int .i64 0, .int .i64 0, .int .i64 0]) ?_ 4 _ rfl; (with_reducible repeat (first | refine blk_drewN ?_ _ | refine blk_drew ?_ | refine blk_alloc ?_ _)); refine blk_put (cs := #[.int .i64 ((rd_T65 t139 x40_2).f0), .int .i64 ((rd_T65 t139 x40_2).f1), .int .i64 ((rd_T65 t139 x40_2).f2), .int .i64 0, .int .i64 0, .int .i64 0, .int .i64 0, .int .i64 0]) ?_ 3 _ rfl; (with_reducible repeat (first | refine blk_drewN ?_ _ | refine blk_drew ?_ | refine blk_alloc ?_ _)); refine blk_put (cs := #[.int .i64 ((rd_T65 t139 x40_2).f0), .int .i64 ((rd_T65 t139 x40_2).f1), .int .i64 0, .int .i64 0, .int .i64 0, .int .i64 0, .int .i64 0, .int .i64 0]) ?_ 2 _ rfl; (with_reducible repeat (first | refine blk_drewN ?_ _ | refine blk_drew ?_ | refine blk_alloc ?_ _)); refine blk_put (cs := #[.int .i64 ((rd_T65 t139 x40_2).f0), .int .i64 0, .int .i64 0, .int .i64 0, .int .i64 0, .int .i64 0, .int .i64 0, .int .i64 0]) ?_ 1 _ rfl; (with_reducible repeat (first | refine blk_drewN ?_ _ | refine blk_drew ?_ | refine blk_alloc ?_ _)); refine blk_put (cs := #[.int .i64 0, .int .i64 0, .int .i64 0, .int .i64 0, .int .i64 0, .int .i64 0, .int .i64 0, .int .i64 0]) ?_ 0 _ rfl; (with_reducible repeat (first | refine blk_drewN ?_ _ | refine blk_drew ?_ | refine blk_alloc ?_ _)); exact BK145.out) hb); have n3_ := Aside0.mk (below_step (by repeat (first | (with_reducible first | exact HB.out | apply below_alloc | apply pw_below_drewN | apply below_drew1 | refine below_set ?_ GE145.out) | exact HB.out)) hb); clear HO_14; clear HO_38; clear BK145; clear HB; have HO_14 := n0_; have HO_38 := n1_; have BK145 := n2_; have HB := n3_; clear n0_ n1_ n2_ n3_; (try clear hb); (try clear hb2); (try clear hk); (try clear hi)))
                    go_ret2
                    exact ⟨_, by first | rfl | (simp [errW_none, errW_some] <;> rfl) | (simp [*, errW_none, errW_some] <;> rfl), by first | exact Kd.R_nil _ _ _ _ _ | exact Kd.N_nil _ _ _ _ _ | exact Kd.V_nil _ _ _ _ _ | exact Kd.Q_nil _ _ _ _ _ | exact Kd.S_nil _ _ _ _ _, by repeat (first | (with_reducible first | exact HB.out | apply below_alloc | apply pw_below_drewN | apply below_drew1 | refine below_set ?_ GE145.out) | exact HB.out)⟩
                · rw [if_neg c16] at H
                  exact absurd H (by simp)
              · rw [if_neg c15] at H
                exact absurd H (by simp)
            · rw [if_neg c14] at H
              have c14b0 : decide (x40_2 < (t139.length : Int)) = false := decide_eq_false c14
              clear c14
              simp only [Option.some.injEq, Prod.mk.injEq] at H
              obtain ⟨rfl, rfl⟩ := H
              go_wp2
              go_ret2
              exact ⟨_, by first | rfl | (simp [errW_none, errW_some] <;> rfl) | (simp [*, errW_none, errW_some] <;> rfl), by (with_reducible repeat (first | apply Kd.R_alloc | apply Kd.R_drewN | apply Kd.R_drew)); exact HO_14.out, by repeat (first | (with_reducible first | exact HB.out | apply below_alloc | apply pw_below_drewN | apply below_drew1) | exact HB.out)⟩
def early_asked.f (k : Nat) (l0 : List (S65)) (a1 : Int) (a2 : Int) (a3 : Int) : Option (Bool) := (path_Walk.f k l0 ([] : List Int) a1 a2 a3).bind fun bt152 => (some bt152.2)
set_option maxHeartbeats 8000000 in
set_option maxRecDepth 100000 in
theorem early_asked.calls (k : Nat) (A0 : Option Addr) (c0 : Nat) (l0 : List (S65)) (a1 : Int) (a2 : Int) (a3 : Int) (r : Bool) (w : World) (hr0 : Kd.C k65 w A0 l0.length l0) (hc0 : l0.length ≤ c0) (h : early_asked.f k l0 a1 a2 a3 = some r) :
    Calls Try.prog 41 #[.slice A0 l0.length c0, .int .i64 a1, .int .i64 a2, .int .i64 a3] w fun e w' => e = .returned (.bool r) ∧ Below w.heap.size w w' := by
  have HR0 := Aside0.mk hr0
  have HC0 := Aside0.mk hc0
  clear hr0 hc0
  have HB := Aside0.mk (Below.refl w.heap.size w)
  have H : ((path_Walk.f k l0 ([] : List Int) a1 a2 a3).bind fun bt152 => (some bt152.2)) = some r := h
  clear h
  replace H := Option.bind_eq_some_iff.mp H
  obtain ⟨⟨t152, t153⟩, A50, H⟩ := H
  replace H : (some t153) = some r := H
  have A5 := Aside0.mk A50
  clear A50
  obtain rfl := Option.some.inj H
  go_enter Try.func41, Try.ntmps41
  go_wp2_with (first | ((with_reducible refine gate_callee (f := 51) rfl ?_); refine goesL_ (some 16) rfl rfl Try.func51 (by kernel_rfl) rfl #[.slice A0 l0.length c0, .slice none 0 0, .int .i64 a1, .int .i64 a2, .int .i64 a3] rfl (by (try simp only [List.map_toArray, List.map_cons, List.map_nil]); first | done | rfl | (simp only [List.length_drop, List.length_take]; rfl)) ?_; (refine (path_Walk.calls k _ _ l0 _ _ ([] : List Int) a1 a2 a3 t152 t153 _ ?side1 ?side2 ?side3 ?side4 A5.out).mono ?_); (case side1 => repeat (first | exact HR0.out | (with_reducible refine Kd.C_alloc ?_ _) | (with_reducible refine Kd.C_drewN ?_ _) | (with_reducible refine Kd.C_drew ?_))); (case side2 => exact HC0.out); (case side3 => exact Kd.C_nil _ _); (case side4 => exact Nat.le_refl _); rintro e w6 ⟨v154, rfl, ho0, hb⟩; refine ⟨_, rfl, ?_⟩; have n0_ := Aside0.mk (Kd.R_lower ho0 (below_size (by repeat (first | (with_reducible first | exact HB.out | apply below_alloc | apply pw_below_drewN | apply below_drew1) | exact HB.out)))); have n1_ := Aside0.mk (below_step (by repeat (first | (with_reducible first | exact HB.out | apply below_alloc | apply pw_below_drewN | apply below_drew1) | exact HB.out)) hb); clear HB; have HO155 := n0_; have HB := n1_; clear n0_ n1_; (try clear hb); (try clear hb2); (try clear hk); (try clear hi); (try clear ho0)))
  go_ret
  exact ⟨by first | rfl | (simp [errW_none, errW_some] <;> rfl) | (simp [*, errW_none, errW_some] <;> rfl), by repeat (first | (with_reducible first | exact HB.out | apply below_alloc | apply pw_below_drewN | apply below_drew1) | exact HB.out)⟩
def late_asked.f (k : Nat) (l0 : List (S65)) (a1 : Int) (a2 : Int) (a3 : Int) : Option (Bool) := (path_Walk.f k l0 ([] : List Int) a1 a2 a3).bind fun bt161 => (some bt161.2)
set_option maxHeartbeats 8000000 in
set_option maxRecDepth 100000 in
theorem late_asked.calls (k : Nat) (A0 : Option Addr) (c0 : Nat) (l0 : List (S65)) (a1 : Int) (a2 : Int) (a3 : Int) (r : Bool) (w : World) (hr0 : Kd.C k65 w A0 l0.length l0) (hc0 : l0.length ≤ c0) (h : late_asked.f k l0 a1 a2 a3 = some r) :
    Calls Try.prog 52 #[.slice A0 l0.length c0, .int .i64 a1, .int .i64 a2, .int .i64 a3] w fun e w' => e = .returned (.bool r) ∧ Below w.heap.size w w' := by
  have HR0 := Aside0.mk hr0
  have HC0 := Aside0.mk hc0
  clear hr0 hc0
  have HB := Aside0.mk (Below.refl w.heap.size w)
  have H : ((path_Walk.f k l0 ([] : List Int) a1 a2 a3).bind fun bt161 => (some bt161.2)) = some r := h
  clear h
  replace H := Option.bind_eq_some_iff.mp H
  obtain ⟨⟨t161, t162⟩, A50, H⟩ := H
  replace H : (some t162) = some r := H
  have A5 := Aside0.mk A50
  clear A50
  obtain rfl := Option.some.inj H
  go_enter Try.func52, Try.ntmps52
  go_wp2_with (first | ((with_reducible refine gate_callee (f := 51) rfl ?_); refine goesL_ (some 16) rfl rfl Try.func51 (by kernel_rfl) rfl #[.slice A0 l0.length c0, .slice none 0 0, .int .i64 a1, .int .i64 a2, .int .i64 a3] rfl (by (try simp only [List.map_toArray, List.map_cons, List.map_nil]); first | done | rfl | (simp only [List.length_drop, List.length_take]; rfl)) ?_; (refine (path_Walk.calls k _ _ l0 _ _ ([] : List Int) a1 a2 a3 t161 t162 _ ?side1 ?side2 ?side3 ?side4 A5.out).mono ?_); (case side1 => repeat (first | exact HR0.out | (with_reducible refine Kd.C_alloc ?_ _) | (with_reducible refine Kd.C_drewN ?_ _) | (with_reducible refine Kd.C_drew ?_))); (case side2 => exact HC0.out); (case side3 => exact Kd.C_nil _ _); (case side4 => exact Nat.le_refl _); rintro e w6 ⟨v163, rfl, ho0, hb⟩; refine ⟨_, rfl, ?_⟩; have n0_ := Aside0.mk (Kd.R_lower ho0 (below_size (by repeat (first | (with_reducible first | exact HB.out | apply below_alloc | apply pw_below_drewN | apply below_drew1) | exact HB.out)))); have n1_ := Aside0.mk (below_step (by repeat (first | (with_reducible first | exact HB.out | apply below_alloc | apply pw_below_drewN | apply below_drew1) | exact HB.out)) hb); clear HB; have HO164 := n0_; have HB := n1_; clear n0_ n1_; (try clear hb); (try clear hb2); (try clear hk); (try clear hi); (try clear ho0)))
  go_ret
  exact ⟨by first | rfl | (simp [errW_none, errW_some] <;> rfl) | (simp [*, errW_none, errW_some] <;> rfl), by repeat (first | (with_reducible first | exact HB.out | apply below_alloc | apply pw_below_drewN | apply below_drew1) | exact HB.out)⟩
def path_Ends.l0 : Nat → List Int → List (S65) → Int → Int → Option (List Int × Bool)
  | 0, _, _, _, _ => none
  | k + 1, x10, x29, x30, x31 => if x31 < x30 then (if 0 ≤ x31 then (if x31 < (x29.length : Int) then (if x10.length < 17592186044416 then (path_Ends.l0 k (x10 ++ [(rd_T65 x29 x31).f2]) x29 x30 (wrap64 (x31 + 1))) else (none)) else (none)) else (none)) else (some (x10, true))
def path_Ends.f (k : Nat) (l0 : List (S65)) (l1 : List Int) (a2 : Int) : Option (List Int × Bool) := (path_asked.f k l0 a2 a2 0 0).bind fun t193 => (if t193 = true then ((path_steps.f l0 l1 a2).bind fun bt194 => (if bt194.2 = true then (path_Ends.l0 k (([a2] : List Int)) bt194.1 (bt194.1.length : Int) 0) else (some (([] : List Int), false)))) else (some (([] : List Int), false)))
set_option maxHeartbeats 8000000 in
set_option maxRecDepth 100000 in
theorem path_Ends.calls (k : Nat) (A0 : Option Addr) (c0 : Nat) (l0 : List (S65)) (A1 : Option Addr) (c1 : Nat) (l1 : List Int) (a2 : Int) (r1 : List Int) (r2 : Bool) (w : World) (hr0 : Kd.C k65 w A0 l0.length l0) (hc0 : l0.length ≤ c0) (hr1 : Kd.C (Kd.int .i64) w A1 l1.length l1) (hc1 : l1.length ≤ c1) (h : path_Ends.f k l0 l1 a2 = some (r1, r2)) :
    Calls Try.prog 16 #[.slice A0 l0.length c0, .slice A1 l1.length c1, .int .i64 a2] w fun e w' => ∃ v0_ : Value, e = .returned (.tuple #[v0_, .bool r2]) ∧ Kd.R (Kd.int .i64) 3 w' w.heap.size (fun _ => True) v0_ r1 ∧ Below w.heap.size w w' := by
  have hu65 := Try.underlying65
  have HR0 := Aside0.mk hr0
  have HC0 := Aside0.mk hc0
  clear hr0 hc0
  have HR1 := Aside0.mk hr1
  have HC1 := Aside0.mk hc1
  clear hr1 hc1
  have HB := Aside0.mk (Below.refl w.heap.size w)
  have H : ((path_asked.f k l0 a2 a2 0 0).bind fun t193 => (if t193 = true then ((path_steps.f l0 l1 a2).bind fun bt194 => (if bt194.2 = true then (path_Ends.l0 k (([a2] : List Int)) bt194.1 (bt194.1.length : Int) 0) else (some (([] : List Int), false)))) else (some (([] : List Int), false)))) = some (r1, r2) := h
  clear h
  replace H := Option.bind_eq_some_iff.mp H
  obtain ⟨t193, A40, H⟩ := H
  replace H : (if t193 = true then ((path_steps.f l0 l1 a2).bind fun bt194 => (if bt194.2 = true then (path_Ends.l0 k (([a2] : List Int)) bt194.1 (bt194.1.length : Int) 0) else (some (([] : List Int), false)))) else (some (([] : List Int), false))) = some (r1, r2) := H
  have A4 := Aside0.mk A40
  clear A40
  by_cases c5 : t193 = true
  · subst c5
    have H1 : ((path_steps.f l0 l1 a2).bind fun bt194 => (if bt194.2 = true then (path_Ends.l0 k (([a2] : List Int)) bt194.1 (bt194.1.length : Int) 0) else (some (([] : List Int), false)))) = some (r1, r2) := by rw [if_pos rfl] at H; exact H
    clear H
    have H := H1
    clear H1
    replace H := Option.bind_eq_some_iff.mp H
    obtain ⟨⟨t194, t195⟩, A60, H⟩ := H
    replace H : (if t195 = true then (path_Ends.l0 k (([a2] : List Int)) t194 (t194.length : Int) 0) else (some (([] : List Int), false))) = some (r1, r2) := H
    have A6 := Aside0.mk A60
    clear A60
    by_cases c7 : t195 = true
    · subst c7
      have H1 : (path_Ends.l0 k (([a2] : List Int)) t194 (t194.length : Int) 0) = some (r1, r2) := by rw [if_pos rfl] at H; exact H
      clear H
      have H := H1
      clear H1
      obtain ⟨y198, hy198⟩ : ∃ y_ : List Int, y_ = (([a2] : List Int)) := ⟨_, rfl⟩
      replace H : (path_Ends.l0 k y198 t194 (t194.length : Int) 0) = some (r1, r2) := by first | (rw [hy198]; with_reducible exact H) | (have H2_ := (Option.bind_some _ _).symm.trans H; rw [hy198]; with_reducible exact H2_) | (have H2_ := (Option.bind_some _ _).symm.trans H; with_reducible exact H2_) | with_reducible exact H | (rw [hy198]; exact H) | exact H
      have Ny198 := Aside0.mk hy198
      clear hy198
      have H' := Aside0.mk H
      clear H
      go_enter Try.func16, Try.ntmps16
      go_wp2_with (first | ((with_reducible refine gate_callee (f := 35) rfl ?_); refine goesL_ (some 16) rfl rfl Try.func35 (by kernel_rfl) rfl #[.slice A0 l0.length c0, .int .i64 a2, .int .i64 a2, .int .i64 0, .int .i64 0] rfl (by (try simp only [List.map_toArray, List.map_cons, List.map_nil]); first | done | rfl | (simp only [List.length_drop, List.length_take]; rfl)) ?_; (with_reducible refine (path_asked.calls k _ _ l0 a2 a2 0 0 true _ ?side1 ?side2 A4.out).mono ?_); (case side1 => repeat (first | exact HR0.out | (with_reducible refine Kd.C_alloc ?_ _) | (with_reducible refine Kd.C_drewN ?_ _) | (with_reducible refine Kd.C_drew ?_))); (case side2 => exact HC0.out); rintro e w8 ⟨rfl, hb⟩; refine ⟨_, rfl, ?_⟩; have n0_ := Aside0.mk (below_step (by repeat (first | (with_reducible first | exact HB.out | apply below_alloc | apply pw_below_drewN | apply below_drew1) | exact HB.out)) hb); clear HB; have HB := n0_; clear n0_; (try clear hb); (try clear hb2); (try clear hk); (try clear hi)) | ((with_reducible refine gate_callee (f := 36) rfl ?_); refine goesL_ (some 22) rfl rfl Try.func36 (by kernel_rfl) rfl #[.slice A0 l0.length c0, .slice A1 l1.length c1, .int .i64 a2] rfl (by (try simp only [List.map_toArray, List.map_cons, List.map_nil]); first | done | rfl | (simp only [List.length_drop, List.length_take]; rfl)) ?_; (with_reducible refine (path_steps.calls _ _ l0 _ _ l1 a2 t194 true _ ?side1 ?side2 ?side3 ?side4 A6.out).mono ?_); (case side1 => repeat (first | exact (Kd.C_below HR0.out HB.out) | (with_reducible refine Kd.C_alloc ?_ _) | (with_reducible refine Kd.C_drewN ?_ _) | (with_reducible refine Kd.C_drew ?_))); (case side2 => exact HC0.out); (case side3 => repeat (first | exact (Kd.C_below HR1.out HB.out) | (with_reducible refine Kd.C_alloc ?_ _) | (with_reducible refine Kd.C_drewN ?_ _) | (with_reducible refine Kd.C_drew ?_))); (case side4 => exact HC1.out); rintro e w9 ⟨v196, rfl, ho0, hb⟩; refine ⟨_, rfl, ?_⟩; have n0_ := Aside0.mk (Kd.R_lower ho0 (below_size (by repeat (first | (with_reducible first | exact HB.out | apply below_alloc | apply pw_below_drewN | apply below_drew1) | exact HB.out)))); have n1_ := Aside0.mk (below_step (by repeat (first | (with_reducible first | exact HB.out | apply below_alloc | apply pw_below_drewN | apply below_drew1) | exact HB.out)) hb); clear HB; have HO197 := n0_; have HB := n1_; clear n0_ n1_; (try clear hb); (try clear hb2); (try clear hk); (try clear hi); (try clear ho0)) | ((with_reducible refine gate_dst (N := 28) rfl ?_); refine Kd.R_lit (Kd.int .i64) _ 3 ?hg (N := 28) ?hd (xs := ([a2] : List Int)) (inner := [.int .i64 a2]) (ok := fun _ => True) (okp := fun _ => True) ?hr ?hp (fun _ hk => hk) trivial (Below.refl _ _) (Nat.le_refl _) (by simp) ?_; (case hd => rfl); (case hg => rfl); (case hr => first | (go_simp; done) | (go_simp; rfl)); (case hp => exact (Reps.one (show Kd.M (Kd.int .i64) _ _ _ a2 [.int .i64 a2] from rfl) (Reps.none _ _))); intro v199 w10 ho11 hb hg_ hnew_; clear hg_ hnew_; (first | rw [← Ny198.out] at ho11 | (simp only [Int.reduceToNat] at ho11; rw [← Ny198.out] at ho11)); have n0_ := Aside0.mk (Kd.R_below (by (with_reducible repeat (first | apply Kd.R_alloc | apply Kd.R_drewN | apply Kd.R_drew)); exact HO197.out) hb); have n1_ := Aside0.mk (Kd.R_lower ho11 (below_size (by repeat (first | (with_reducible first | exact HB.out | apply below_alloc | apply pw_below_drewN | apply below_drew1) | exact HB.out)))); have n2_ := Aside0.mk (below_step (by repeat (first | (with_reducible first | exact HB.out | apply below_alloc | apply pw_below_drewN | apply below_drew1) | exact HB.out)) hb); clear HO197; clear HB; have HO197 := n0_; have HO200 := n1_; have HB := n2_; clear n0_ n1_ n2_; clear hb ho11; obtain ⟨Ao12, co12, eo12⟩ := Kd.R_slice HO197.out; subst eo12))
      go_loopg [10, 31] k (fun kq v10 v31 w' => ∃ (x10_1 : List Int) (x31_1 : Int), v31 = .int .i64 x31_1 ∧ Aside0 (path_Ends.l0 kq x10_1 t194 (t194.length : Int) x31_1 = some (r1, r2)) ∧ Aside0 (kq ≤ k) ∧ Aside0 (Kd.R (Kd.int .i64) 3 w' w.heap.size (fun _ => True) v10 x10_1) ∧ Aside0 (Kd.R k65 65 w' w.heap.size (fun _ => True) (.slice Ao12 t194.length co12) t194) ∧ Aside0 (Below w.heap.size w w'))
      case atStart => exact ⟨(y198), (0), (by first | rfl | (simp; done) | (simp [*]; done)), H', ⟨Nat.le_refl _⟩, ⟨by (with_reducible repeat (first | apply Kd.R_alloc | apply Kd.R_drewN | apply Kd.R_drew)); exact HO200.out⟩, ⟨by (with_reducible repeat (first | apply Kd.R_alloc | apply Kd.R_drewN | apply Kd.R_drew)); exact HO197.out⟩, ⟨by repeat (first | (with_reducible first | exact HB.out | apply below_alloc | apply pw_below_drewN | apply below_drew1) | exact HB.out)⟩⟩
      case round =>
        clear H'
        try clear c1
        try clear p2
        try clear c3
        try clear c5
        try clear c7
        obtain ⟨x10_1, x31_1, rfl, HA, HK1, HO_10, HO_29, HB⟩ := hrel
        cases gk with
        | zero => exact absurd HA.out (by simp [path_Ends.l0])
        | succ k1 =>
          have H := HA.out
          clear HA
          simp only [path_Ends.l0] at H
          by_cases c13 : x31_1 < (t194.length : Int)
          · rw [if_pos c13] at H
            have c13b0 : decide (x31_1 < (t194.length : Int)) = true := decide_eq_true c13
            clear c13
            by_cases c14 : 0 ≤ x31_1
            · rw [if_pos c14] at H
              have c14b0 : decide (0 ≤ x31_1) = true := decide_eq_true c14
              clear c14
              by_cases c15 : x31_1 < (t194.length : Int)
              · rw [if_pos c15] at H
                have c15b0 : decide (x31_1 < (t194.length : Int)) = true := decide_eq_true c15
                clear c15
                by_cases c16 : x10_1.length < 17592186044416
                · rw [if_pos c16] at H
                  have LMc16 := Aside0.mk c16
                  clear c16
                  obtain ⟨y203, hy203⟩ : ∃ y_ : List Int, y_ = (x10_1 ++ [(rd_T65 t194 x31_1).f2]) := ⟨_, rfl⟩
                  replace H : (path_Ends.l0 k1 y203 t194 (t194.length : Int) (wrap64 (x31_1 + 1))) = some (r1, r2) := by first | (rw [hy203]; with_reducible exact H) | (have H2_ := (Option.bind_some _ _).symm.trans H; rw [hy203]; with_reducible exact H2_) | (have H2_ := (Option.bind_some _ _).symm.trans H; with_reducible exact H2_) | with_reducible exact H | (rw [hy203]; exact H) | exact H
                  have Ny203 := Aside0.mk hy203
                  clear hy203
                  have H' := Aside0.mk H
                  clear H
                  have p201 : 0 ≤ (x31_1 : Int) := of_decide_eq_true (by first | (with_reducible assumption) | assumption)
                  have q201 : x31_1 < (t194.length : Int) := of_decide_eq_true (by first | (with_reducible assumption) | assumption)
                  obtain ⟨ad201, e201, hx201_0, hx201_1, hx201_2, hx201_3, hx201_4, hx201_5, hx201_6, hx201_7⟩ := at_T65 (Kd.R_reads' HO_29.out).2.2 x31_1 p201 q201
                  cases e201
                  replace p201 := eq_true p201
                  replace q201 := eq_true q201
                  go_wp2_with (first | ((with_reducible refine gate_dst (N := 12) rfl ?_); refine box_event ?hg (N := 12) ?hd (cs := #[.int .i64 0, .int .i64 0, .int .i64 0, .int .i64 0, .int .i64 0, .int .i64 0, .int .i64 0, .int .i64 0]) (t := 65) ?hr ?_; (case hd => rfl); (case hg => rfl); (case hr => first | (go_simp; done) | (go_simp; rfl)); intro gb202 hg w17 hbox hb; have n0_ := Aside0.mk (Kd.R_below (by (with_reducible repeat (first | apply Kd.R_alloc | apply Kd.R_drewN | apply Kd.R_drew)); exact HO_10.out) hb); have n1_ := Aside0.mk (Kd.R_below (Kd.R_elderB (by (with_reducible repeat (first | apply Kd.R_alloc | apply Kd.R_drewN | apply Kd.R_drew)); exact HO_29.out) gb202 (Nat.le_of_eq hg.symm)) hb); have n2_ := Aside0.mk (below_step (by repeat (first | (with_reducible first | exact HB.out | apply below_alloc | apply pw_below_drewN | apply below_drew1) | exact HB.out)) hb); have n3_ := Aside0.mk (hbox); have n4_ := Aside0.mk ((by rw [hg]; exact (below_size (by repeat (first | (with_reducible first | exact HB.out | apply below_alloc | apply pw_below_drewN | apply below_drew1) | exact HB.out))) : w.heap.size ≤ gb202)); have n5_ := Aside0.mk ((by rw [hg]; exact (below_size (by repeat (first | (with_reducible first | exact HB.out | apply below_alloc | apply pw_below_drewN | apply below_drew1) | exact HB.out))) : w.heap.size ≤ gb202)); clear HO_10; clear HO_29; clear HB; have HO_10 := n0_; have HO_29 := n1_; have HB := n2_; have BK202 := n3_; have GW202 := n4_; have GE202 := n5_; clear n0_ n1_ n2_ n3_ n4_ n5_; clear hb hbox hg; have hcz18_0 : w17.cell? ⟨gb202, 0, none⟩ = some (.int .i64 0) := (blk_cell BK202.out 0).trans rfl; have hcz18_1 : w17.cell? ⟨gb202, 1, none⟩ = some (.int .i64 0) := (blk_cell BK202.out 1).trans rfl; have hcz18_2 : w17.cell? ⟨gb202, 2, none⟩ = some (.int .i64 0) := (blk_cell BK202.out 2).trans rfl; have hcz18_3 : w17.cell? ⟨gb202, 3, none⟩ = some (.int .i64 0) := (blk_cell BK202.out 3).trans rfl; have hcz18_4 : w17.cell? ⟨gb202, 4, none⟩ = some (.int .i64 0) := (blk_cell BK202.out 4).trans rfl; have hcz18_5 : w17.cell? ⟨gb202, 5, none⟩ = some (.int .i64 0) := (blk_cell BK202.out 5).trans rfl; have hcz18_6 : w17.cell? ⟨gb202, 6, none⟩ = some (.int .i64 0) := (blk_cell BK202.out 6).trans rfl; have hcz18_7 : w17.cell? ⟨gb202, 7, none⟩ = some (.int .i64 0) := (blk_cell BK202.out 7).trans rfl; have hfz18_0 := blk_frozen BK202.out 0; have hfz18_1 := blk_frozen BK202.out 1; have hfz18_2 := blk_frozen BK202.out 2; have hfz18_3 := blk_frozen BK202.out 3; have hfz18_4 := blk_frozen BK202.out 4; have hfz18_5 := blk_frozen BK202.out 5; have hfz18_6 := blk_frozen BK202.out 6; have hfz18_7 := blk_frozen BK202.out 7) | ((with_reducible refine gate_builtin (b := .append) (xs := #[.tmp 35, .tmp 38]) rfl ?_); at_builtin; refine Kd.R_append (Kd.int .i64) (w0 := w) w.heap.size rfl (.tmp 35) (.tmp 38) 23 3 (.int .i64 0) 8 rfl Try.underlying23 info3 rfl (by decide) (by omega) u10 x10_1 ((rd_T65 t194 x31_1).f2) [.int .i64 ((rd_T65 t194 x31_1).f2)] (fun _ => True) (fun _ => False) rfl (by first | (go_simp; done) | (go_simp; rfl)) ?aP (fun _ hk => hk.elim) ?aF ?aO ?aB ?aS ?aL ?_; (case aP => exact rfl); (case aB => exact (by repeat (first | (with_reducible first | exact HB.out | apply below_alloc | apply pw_below_drewN | apply below_drew1 | refine below_set ?_ GE202.out) | exact HB.out))); (case aF => exact (fun _ _ => trivial)); (case aO => exact (by (with_reducible repeat (first | apply Kd.R_alloc | apply Kd.R_drewN | apply Kd.R_drew)); exact Kd.R_mono (Kd.R_far (p := ⟨gb202, 7, none⟩) (Kd.R_far (p := ⟨gb202, 6, none⟩) (Kd.R_far (p := ⟨gb202, 5, none⟩) (Kd.R_far (p := ⟨gb202, 4, none⟩) (Kd.R_far (p := ⟨gb202, 3, none⟩) (Kd.R_far (p := ⟨gb202, 2, none⟩) (Kd.R_far (p := ⟨gb202, 1, none⟩) (Kd.R_far (p := ⟨gb202, 0, none⟩) (Kd.R_types HO_10.out BK202.out (by decide)) (fun _ hk => hk.2) (.int .i64 ((rd_T65 t194 x31_1).f0))) (fun _ hk => hk.2) (.int .i64 ((rd_T65 t194 x31_1).f1))) (fun _ hk => hk.2) (.int .i64 ((rd_T65 t194 x31_1).f2))) (fun _ hk => hk.2) (.int .i64 ((rd_T65 t194 x31_1).f3))) (fun _ hk => hk.2) (.int .i64 ((rd_T65 t194 x31_1).f4))) (fun _ hk => hk.2) (.int .i64 ((rd_T65 t194 x31_1).f5))) (fun _ hk => hk.2) (.int .i64 ((rd_T65 t194 x31_1).f6))) (fun _ hk => hk.2) (.int .i64 ((rd_T65 t194 x31_1).f7))) (fun _ hk => trivial))); (case aS => exact (below_size (by repeat (first | (with_reducible first | exact HB.out | apply below_alloc | apply pw_below_drewN | apply below_drew1 | refine below_set ?_ GE202.out) | exact HB.out)))); (case aL => have := LMc16.out; omega); intro v204 w19 ho hb hg hat; rw [← Ny203.out] at ho; have n0_ := Aside0.mk (Kd.R_over' (by (with_reducible repeat (first | apply Kd.R_alloc | apply Kd.R_drewN | apply Kd.R_drew)); exact (Kd.R_mono (Kd.R_far (p := ⟨gb202, 7, none⟩) (Kd.R_far (p := ⟨gb202, 6, none⟩) (Kd.R_far (p := ⟨gb202, 5, none⟩) (Kd.R_far (p := ⟨gb202, 4, none⟩) (Kd.R_far (p := ⟨gb202, 3, none⟩) (Kd.R_far (p := ⟨gb202, 2, none⟩) (Kd.R_far (p := ⟨gb202, 1, none⟩) (Kd.R_far (p := ⟨gb202, 0, none⟩) (Kd.R_mono HO_29.out (fun k_ hk => (⟨hk, hk.2⟩ : _ ∧ k_ ≠ gb202))) (fun _ hk => hk.2) (.int .i64 ((rd_T65 t194 x31_1).f0))) (fun _ hk => hk.2) (.int .i64 ((rd_T65 t194 x31_1).f1))) (fun _ hk => hk.2) (.int .i64 ((rd_T65 t194 x31_1).f2))) (fun _ hk => hk.2) (.int .i64 ((rd_T65 t194 x31_1).f3))) (fun _ hk => hk.2) (.int .i64 ((rd_T65 t194 x31_1).f4))) (fun _ hk => hk.2) (.int .i64 ((rd_T65 t194 x31_1).f5))) (fun _ hk => hk.2) (.int .i64 ((rd_T65 t194 x31_1).f6))) (fun _ hk => hk.2) (.int .i64 ((rd_T65 t194 x31_1).f7))) (fun _ h_ => h_.1))) (Kd.R_typed (by (with_reducible repeat (first | apply Kd.R_alloc | apply Kd.R_drewN | apply Kd.R_drew)); exact (Kd.R_mono (Kd.R_far (p := ⟨gb202, 7, none⟩) (Kd.R_far (p := ⟨gb202, 6, none⟩) (Kd.R_far (p := ⟨gb202, 5, none⟩) (Kd.R_far (p := ⟨gb202, 4, none⟩) (Kd.R_far (p := ⟨gb202, 3, none⟩) (Kd.R_far (p := ⟨gb202, 2, none⟩) (Kd.R_far (p := ⟨gb202, 1, none⟩) (Kd.R_far (p := ⟨gb202, 0, none⟩) (Kd.R_types HO_10.out BK202.out (by decide)) (fun _ hk => hk.2) (.int .i64 ((rd_T65 t194 x31_1).f0))) (fun _ hk => hk.2) (.int .i64 ((rd_T65 t194 x31_1).f1))) (fun _ hk => hk.2) (.int .i64 ((rd_T65 t194 x31_1).f2))) (fun _ hk => hk.2) (.int .i64 ((rd_T65 t194 x31_1).f3))) (fun _ hk => hk.2) (.int .i64 ((rd_T65 t194 x31_1).f4))) (fun _ hk => hk.2) (.int .i64 ((rd_T65 t194 x31_1).f5))) (fun _ hk => hk.2) (.int .i64 ((rd_T65 t194 x31_1).f6))) (fun _ hk => hk.2) (.int .i64 ((rd_T65 t194 x31_1).f7))) (fun _ h_ => h_.1)))) (by decide) hg); have n1_ := Aside0.mk (blk_grown (g := gb202) (o := .cells #[.int .i64 ((rd_T65 t194 x31_1).f0), .int .i64 ((rd_T65 t194 x31_1).f1), .int .i64 ((rd_T65 t194 x31_1).f2), .int .i64 ((rd_T65 t194 x31_1).f3), .int .i64 ((rd_T65 t194 x31_1).f4), .int .i64 ((rd_T65 t194 x31_1).f5), .int .i64 ((rd_T65 t194 x31_1).f6), .int .i64 ((rd_T65 t194 x31_1).f7)] 65 (0, 0)) (by (with_reducible repeat (first | refine blk_drewN ?_ _ | refine blk_drew ?_ | refine blk_alloc ?_ _)); refine blk_put (cs := #[.int .i64 ((rd_T65 t194 x31_1).f0), .int .i64 ((rd_T65 t194 x31_1).f1), .int .i64 ((rd_T65 t194 x31_1).f2), .int .i64 ((rd_T65 t194 x31_1).f3), .int .i64 ((rd_T65 t194 x31_1).f4), .int .i64 ((rd_T65 t194 x31_1).f5), .int .i64 ((rd_T65 t194 x31_1).f6), .int .i64 0]) ?_ 7 _ rfl; (with_reducible repeat (first | refine blk_drewN ?_ _ | refine blk_drew ?_ | refine blk_alloc ?_ _)); refine blk_put (cs := #[.int .i64 ((rd_T65 t194 x31_1).f0), .int .i64 ((rd_T65 t194 x31_1).f1), .int .i64 ((rd_T65 t194 x31_1).f2), .int .i64 ((rd_T65 t194 x31_1).f3), .int .i64 ((rd_T65 t194 x31_1).f4), .int .i64 ((rd_T65 t194 x31_1).f5), .int .i64 0, .int .i64 0]) ?_ 6 _ rfl; (with_reducible repeat (first | refine blk_drewN ?_ _ | refine blk_drew ?_ | refine blk_alloc ?_ _)); refine blk_put (cs := #[.int .i64 ((rd_T65 t194 x31_1).f0), .int .i64 ((rd_T65 t194 x31_1).f1), .int .i64 ((rd_T65 t194 x31_1).f2), .int .i64 ((rd_T65 t194 x31_1).f3), .int .i64 ((rd_T65 t194 x31_1).f4), .int .i64 0, .int .i64 0, .int .i64 0]) ?_ 5 _ rfl; (with_reducible repeat (first | refine blk_drewN ?_ _ | refine blk_drew ?_ | refine blk_alloc ?_ _)); refine blk_put (cs := #[.int .i64 ((rd_T65 t194 x31_1).f0), .int .i64 ((rd_T65 t194 x31_1).f1), .int .i64 ((rd_T65 t194 x31_1).f2), .int .i64 ((rd_T65 t194 x31_1).f3), .int .i64 0, .int .i64 0, .int .i64 0, .int .i64 0]) ?_ 4 _ rfl; (with_reducible repeat (first | refine blk_drewN ?_ _ | refine blk_drew ?_ | refine blk_alloc ?_ _)); refine blk_put (cs := #[.int .i64 ((rd_T65 t194 x31_1).f0), .int .i64 ((rd_T65 t194 x31_1).f1), .int .i64 ((rd_T65 t194 x31_1).f2), .int .i64 0, .int .i64 0, .int .i64 0, .int .i64 0, .int .i64 0]) ?_ 3 _ rfl; (with_reducible repeat (first | refine blk_drewN ?_ _ | refine blk_drew ?_ | refine blk_alloc ?_ _)); refine blk_put (cs := #[.int .i64 ((rd_T65 t194 x31_1).f0), .int .i64 ((rd_T65 t194 x31_1).f1), .int .i64 0, .int .i64 0, .int .i64 0, .int .i64 0, .int .i64 0, .int .i64 0]) ?_ 2 _ rfl; (with_reducible repeat (first | refine blk_drewN ?_ _ | refine blk_drew ?_ | refine blk_alloc ?_ _)); refine blk_put (cs := #[.int .i64 ((rd_T65 t194 x31_1).f0), .int .i64 0, .int .i64 0, .int .i64 0, .int .i64 0, .int .i64 0, .int .i64 0, .int .i64 0]) ?_ 1 _ rfl; (with_reducible repeat (first | refine blk_drewN ?_ _ | refine blk_drew ?_ | refine blk_alloc ?_ _)); refine blk_put (cs := #[.int .i64 0, .int .i64 0, .int .i64 0, .int .i64 0, .int .i64 0, .int .i64 0, .int .i64 0, .int .i64 0]) ?_ 0 _ rfl; (with_reducible repeat (first | refine blk_drewN ?_ _ | refine blk_drew ?_ | refine blk_alloc ?_ _)); exact BK202.out) hg (Kd.R_ne HO_10.out BK202.out (by decide))); have n2_ := Aside0.mk (hb); have n3_ := Aside0.mk (ho); clear HO_29; clear BK202; clear HB; clear HO_10; have HO_29 := n0_; have BK202 := n1_; have HB := n2_; have HO205 := n3_; clear n0_ n1_ n2_ n3_; clear ho hb hg hat))
                  go_roundg k1
                  case measure => have := HK1.out; omega
                  case rel => exact ⟨(y203), (wrap64 (x31_1 + 1)), (by first | rfl | (simp; done) | (simp [*]; done)), H', ⟨by have := HK1.out; omega⟩, ⟨by (with_reducible repeat (first | apply Kd.R_alloc | apply Kd.R_drewN | apply Kd.R_drew)); exact HO205.out⟩, ⟨by (with_reducible repeat (first | apply Kd.R_alloc | apply Kd.R_drewN | apply Kd.R_drew)); exact Kd.R_mono HO_29.out (fun _ hk => trivial)⟩, ⟨by repeat (first | (with_reducible first | exact HB.out | apply below_alloc | apply pw_below_drewN | apply below_drew1 | refine below_set ?_ GE202.out) | exact HB.out)⟩⟩
                · rw [if_neg c16] at H
                  exact absurd H (by simp)
              · rw [if_neg c15] at H
                exact absurd H (by simp)
            · rw [if_neg c14] at H
              exact absurd H (by simp)
          · rw [if_neg c13] at H
            have c13b0 : decide (x31_1 < (t194.length : Int)) = false := decide_eq_false c13
            clear c13
            simp only [Option.some.injEq, Prod.mk.injEq] at H
            obtain ⟨rfl, rfl⟩ := H
            go_wp2
            go_ret2
            exact ⟨_, by first | rfl | (simp [errW_none, errW_some] <;> rfl) | (simp [*, errW_none, errW_some] <;> rfl), by (with_reducible repeat (first | apply Kd.R_alloc | apply Kd.R_drewN | apply Kd.R_drew)); exact HO_10.out, by repeat (first | (with_reducible first | exact HB.out | apply below_alloc | apply pw_below_drewN | apply below_drew1) | exact HB.out)⟩
    · replace c7 := Bool.eq_false_iff.mpr c7
      subst c7
      have H1 : (some (([] : List Int), false)) = some (r1, r2) := by rw [if_neg (show ¬ (false = true) by decide)] at H; exact H
      clear H
      have H := H1
      clear H1
      simp only [Option.some.injEq, Prod.mk.injEq] at H
      obtain ⟨rfl, rfl⟩ := H
      go_enter Try.func16, Try.ntmps16
      go_wp2_with (first | ((with_reducible refine gate_callee (f := 35) rfl ?_); refine goesL_ (some 16) rfl rfl Try.func35 (by kernel_rfl) rfl #[.slice A0 l0.length c0, .int .i64 a2, .int .i64 a2, .int .i64 0, .int .i64 0] rfl (by (try simp only [List.map_toArray, List.map_cons, List.map_nil]); first | done | rfl | (simp only [List.length_drop, List.length_take]; rfl)) ?_; (with_reducible refine (path_asked.calls k _ _ l0 a2 a2 0 0 true _ ?side1 ?side2 A4.out).mono ?_); (case side1 => repeat (first | exact HR0.out | (with_reducible refine Kd.C_alloc ?_ _) | (with_reducible refine Kd.C_drewN ?_ _) | (with_reducible refine Kd.C_drew ?_))); (case side2 => exact HC0.out); rintro e w20 ⟨rfl, hb⟩; refine ⟨_, rfl, ?_⟩; have n0_ := Aside0.mk (below_step (by repeat (first | (with_reducible first | exact HB.out | apply below_alloc | apply pw_below_drewN | apply below_drew1) | exact HB.out)) hb); clear HB; have HB := n0_; clear n0_; (try clear hb); (try clear hb2); (try clear hk); (try clear hi)) | ((with_reducible refine gate_callee (f := 36) rfl ?_); refine goesL_ (some 22) rfl rfl Try.func36 (by kernel_rfl) rfl #[.slice A0 l0.length c0, .slice A1 l1.length c1, .int .i64 a2] rfl (by (try simp only [List.map_toArray, List.map_cons, List.map_nil]); first | done | rfl | (simp only [List.length_drop, List.length_take]; rfl)) ?_; (with_reducible refine (path_steps.calls _ _ l0 _ _ l1 a2 t194 false _ ?side1 ?side2 ?side3 ?side4 A6.out).mono ?_); (case side1 => repeat (first | exact (Kd.C_below HR0.out HB.out) | (with_reducible refine Kd.C_alloc ?_ _) | (with_reducible refine Kd.C_drewN ?_ _) | (with_reducible refine Kd.C_drew ?_))); (case side2 => exact HC0.out); (case side3 => repeat (first | exact (Kd.C_below HR1.out HB.out) | (with_reducible refine Kd.C_alloc ?_ _) | (with_reducible refine Kd.C_drewN ?_ _) | (with_reducible refine Kd.C_drew ?_))); (case side4 => exact HC1.out); rintro e w21 ⟨v196, rfl, ho0, hb⟩; refine ⟨_, rfl, ?_⟩; have n0_ := Aside0.mk (Kd.R_lower ho0 (below_size (by repeat (first | (with_reducible first | exact HB.out | apply below_alloc | apply pw_below_drewN | apply below_drew1) | exact HB.out)))); have n1_ := Aside0.mk (below_step (by repeat (first | (with_reducible first | exact HB.out | apply below_alloc | apply pw_below_drewN | apply below_drew1) | exact HB.out)) hb); clear HB; have HO197 := n0_; have HB := n1_; clear n0_ n1_; (try clear hb); (try clear hb2); (try clear hk); (try clear hi); (try clear ho0)))
      go_ret2
      exact ⟨_, by first | rfl | (simp [errW_none, errW_some] <;> rfl) | (simp [*, errW_none, errW_some] <;> rfl), by first | exact Kd.R_nil _ _ _ _ _ | exact Kd.N_nil _ _ _ _ _ | exact Kd.V_nil _ _ _ _ _ | exact Kd.Q_nil _ _ _ _ _ | exact Kd.S_nil _ _ _ _ _, by repeat (first | (with_reducible first | exact HB.out | apply below_alloc | apply pw_below_drewN | apply below_drew1) | exact HB.out)⟩
  · replace c5 := Bool.eq_false_iff.mpr c5
    subst c5
    have H1 : (some (([] : List Int), false)) = some (r1, r2) := by rw [if_neg (show ¬ (false = true) by decide)] at H; exact H
    clear H
    have H := H1
    clear H1
    simp only [Option.some.injEq, Prod.mk.injEq] at H
    obtain ⟨rfl, rfl⟩ := H
    go_enter Try.func16, Try.ntmps16
    go_wp2_with (first | ((with_reducible refine gate_callee (f := 35) rfl ?_); refine goesL_ (some 16) rfl rfl Try.func35 (by kernel_rfl) rfl #[.slice A0 l0.length c0, .int .i64 a2, .int .i64 a2, .int .i64 0, .int .i64 0] rfl (by (try simp only [List.map_toArray, List.map_cons, List.map_nil]); first | done | rfl | (simp only [List.length_drop, List.length_take]; rfl)) ?_; (with_reducible refine (path_asked.calls k _ _ l0 a2 a2 0 0 false _ ?side1 ?side2 A4.out).mono ?_); (case side1 => repeat (first | exact HR0.out | (with_reducible refine Kd.C_alloc ?_ _) | (with_reducible refine Kd.C_drewN ?_ _) | (with_reducible refine Kd.C_drew ?_))); (case side2 => exact HC0.out); rintro e w22 ⟨rfl, hb⟩; refine ⟨_, rfl, ?_⟩; have n0_ := Aside0.mk (below_step (by repeat (first | (with_reducible first | exact HB.out | apply below_alloc | apply pw_below_drewN | apply below_drew1) | exact HB.out)) hb); clear HB; have HB := n0_; clear n0_; (try clear hb); (try clear hb2); (try clear hk); (try clear hi)))
    go_ret2
    exact ⟨_, by first | rfl | (simp [errW_none, errW_some] <;> rfl) | (simp [*, errW_none, errW_some] <;> rfl), by first | exact Kd.R_nil _ _ _ _ _ | exact Kd.N_nil _ _ _ _ _ | exact Kd.V_nil _ _ _ _ _ | exact Kd.Q_nil _ _ _ _ _ | exact Kd.S_nil _ _ _ _ _, by repeat (first | (with_reducible first | exact HB.out | apply below_alloc | apply pw_below_drewN | apply below_drew1) | exact HB.out)⟩
end Go.Proofs.Ytijflnpgiegajaa.Q
end
