/- Part 4 of the texts behind the statement that the last text of this claim proves. -/
import Derived.Lib.SliceRun
import Derived.Test.YtijflnpgiegajaaKD0
import Derived.Test.YtijflnpgiegajaaKD1
import Derived.Test.YtijflnpgiegajaaKD2
import Derived.Test.YtijflnpgiegajaaKD3
section
namespace Go.Proofs.Ytijflnpgiegajaa.Q
open Go.RowKit Go.Proofs.YtijflnpgiegajaaW.PrintWords Go.Proofs.YtijflnpgiegajaaW.PrintLast Go.Proofs.YtijflnpgiegajaaW.PrintMore
attribute [local go_sem] max2_int min2_int max_two min_two
set_option linter.unusedVariables false
set_option linter.unusedSimpArgs false
def least_search_next.l0 : Nat → Int → List (S71) → List (S65) → Int → Int → List (S65) → Int → Int → Int → List Int → Option (Int × Int × Int × Int × Bool)
  | 0, _, _, _, _, _, _, _, _, _, _ => none
  | k + 1, x2, x11, x34, x35, x36, x171000, x171001, x171002, x171003, x171004 => if x36 < x35 then (if 0 ≤ x36 then (if x36 < (x34.length : Int) then ((hop_Pass.f k ((rd_T65 x34 x36).f0) ((rd_T65 x34 x36).f1) ((rd_T65 x34 x36).f2) ((rd_T65 x34 x36).f3) ((rd_T65 x34 x36).f4) ((rd_T65 x34 x36).f5) ((rd_T65 x34 x36).f6) ((rd_T65 x34 x36).f7) x2 x171002).bind fun bt180 => ((early_At.f k x11 ((rd_T65 x34 x36).f2)).bind fun bt183 => (if bt180.2.2 = true then (if bt183.2 = true then (if bt180.2.1 ≤ bt183.1 then (if ((rd_T65 x34 x36).f2) = x171001 then (some ((rd_T65 x34 x36).f0, bt180.1, bt180.2.1, (rd_T65 x34 x36).f2, true)) else ((slices_Contains_int_int.f k x171004 ((rd_T65 x34 x36).f2)).bind fun t185 => (if t185 = true then (least_search_next.l0 k x2 x11 x34 x35 (wrap64 (x36 + 1)) x171000 x171001 x171002 x171003 x171004) else (some ((rd_T65 x34 x36).f0, bt180.1, bt180.2.1, (rd_T65 x34 x36).f2, true))))) else (least_search_next.l0 k x2 x11 x34 x35 (wrap64 (x36 + 1)) x171000 x171001 x171002 x171003 x171004)) else (least_search_next.l0 k x2 x11 x34 x35 (wrap64 (x36 + 1)) x171000 x171001 x171002 x171003 x171004)) else (least_search_next.l0 k x2 x11 x34 x35 (wrap64 (x36 + 1)) x171000 x171001 x171002 x171003 x171004)))) else (none)) else (none)) else (some (0, 0, 0, 0, false))
def least_search_next.f (k : Nat) (l0_0 : List (S65)) (a0_1 : Int) (a0_2 : Int) (a0_3 : Int) (l0_4 : List Int) (a1 : Int) (a2 : Int) (a3 : Int) : Option (Int × Int × Int × Int × Bool) := (late_Times.f l0_0 a0_1 a0_3 a0_2 a3 l0_4).bind fun t172 => ((view_From.f k l0_0 a1).bind fun t175 => (least_search_next.l0 k a2 t172 t175 (t175.length : Int) 0 l0_0 a0_1 a0_2 a0_3 l0_4))
def least_search_next.T8 : Bool × List (List Nat × List Nat) := (true, [([], []), ([0], [0]), ([], []), ([], []), ([1, 2, 3], [1, 2, 3]), ([], []), ([5], [5]), ([4, 0, 1, 2, 3, 4], [4]), ([6, 7, 0, 1, 2, 3, 4, 5, 6, 7], [6]), ([8, 0, 1, 2, 3, 4, 5, 6, 7, 8], [])])
def least_search_next.B8 : List Nat := [0, 1, 0, 0, 15, 0, 32, 31, 255, 511]
theorem least_search_next.tab8 : rtab .any (opsOf Try.f34 8) = least_search_next.T8 := by kernel_rfl
theorem least_search_next.bits8 : waitsOk least_search_next.T8.2 least_search_next.B8 = true := by kernel_rfl
set_option maxHeartbeats 8000000 in
set_option maxRecDepth 100000 in
theorem least_search_next.calls (k : Nat) (A0_0 : Option Addr) (c0_0 : Nat) (l0_0 : List (S65)) (a0_1 : Int) (a0_2 : Int) (a0_3 : Int) (A0_4 : Option Addr) (c0_4 : Nat) (l0_4 : List Int) (a1 : Int) (a2 : Int) (a3 : Int) (r1 : Int) (r2 : Int) (r3 : Int) (r4 : Int) (r5 : Bool) (w : World) (hr0_0 : Kd.C k65 w A0_0 l0_0.length l0_0) (hc0_0 : l0_0.length ≤ c0_0) (hr0_4 : Kd.C (Kd.int .i64) w A0_4 l0_4.length l0_4) (hc0_4 : l0_4.length ≤ c0_4) (h : least_search_next.f k l0_0 a0_1 a0_2 a0_3 l0_4 a1 a2 a3 = some (r1, r2, r3, r4, r5)) :
    Calls Try.prog 34 #[.agg #[.slice A0_0 l0_0.length c0_0, .int .i64 a0_1, .int .i64 a0_2, .int .i64 a0_3, .slice A0_4 l0_4.length c0_4], .int .i64 a1, .int .i64 a2, .int .i64 a3] w fun e w' => e = .returned (.tuple #[.agg #[.int .i64 r1, .int .i64 r2, .int .i64 r3], .int .i64 r4, .bool r5]) ∧ Below w.heap.size w w' := by
  have hu58 := Try.underlying58
  have hu56 := Try.underlying56
  have hu65 := Try.underlying65
  have HR0_0 := Aside0.mk hr0_0
  have HC0_0 := Aside0.mk hc0_0
  clear hr0_0 hc0_0
  have HR0_4 := Aside0.mk hr0_4
  have HC0_4 := Aside0.mk hc0_4
  clear hr0_4 hc0_4
  have HB := Aside0.mk (Below.refl w.heap.size w)
  have H : ((late_Times.f l0_0 a0_1 a0_3 a0_2 a3 l0_4).bind fun t172 => ((view_From.f k l0_0 a1).bind fun t175 => (least_search_next.l0 k a2 t172 t175 (t175.length : Int) 0 l0_0 a0_1 a0_2 a0_3 l0_4))) = some (r1, r2, r3, r4, r5) := h
  clear h
  replace H := Option.bind_eq_some_iff.mp H
  obtain ⟨t172, A50, H⟩ := H
  replace H : ((view_From.f k l0_0 a1).bind fun t175 => (least_search_next.l0 k a2 t172 t175 (t175.length : Int) 0 l0_0 a0_1 a0_2 a0_3 l0_4)) = some (r1, r2, r3, r4, r5) := H
  have A5 := Aside0.mk A50
  clear A50
  replace H := Option.bind_eq_some_iff.mp H
  obtain ⟨t175, A60, H⟩ := H
  replace H : (least_search_next.l0 k a2 t172 t175 (t175.length : Int) 0 l0_0 a0_1 a0_2 a0_3 l0_4) = some (r1, r2, r3, r4, r5) := H
  have A6 := Aside0.mk A60
  clear A60
  have H' := Aside0.mk H
  clear H
  go_enter Try.func34, Try.ntmps34
  go_wp2_with (first | ((with_reducible refine gate_dst (N := 4) rfl ?_); refine box_event ?hg (N := 4) ?hd (cs := #[.slice A0_0 l0_0.length c0_0, .int .i64 a0_1, .int .i64 a0_2, .int .i64 a0_3, .slice A0_4 l0_4.length c0_4]) (t := 58) ?hr ?_; (case hd => rfl); (case hg => rfl); (case hr => first | (go_simp; done) | (go_simp; rfl)); intro gb170 hg w7 hbox hb; have n0_ := Aside0.mk (below_step (by repeat (first | (with_reducible first | exact HB.out | apply below_alloc | apply pw_below_drewN | apply below_drew1) | exact HB.out)) hb); have n1_ := Aside0.mk (hbox); have n2_ := Aside0.mk ((by rw [hg]; exact (below_size (by repeat (first | (with_reducible first | exact HB.out | apply below_alloc | apply pw_below_drewN | apply below_drew1) | exact HB.out))) : w.heap.size ≤ gb170)); have n3_ := Aside0.mk ((by rw [hg]; exact (below_size (by repeat (first | (with_reducible first | exact HB.out | apply below_alloc | apply pw_below_drewN | apply below_drew1) | exact HB.out))) : w.heap.size ≤ gb170)); clear HB; have HB := n0_; have BK170 := n1_; have GW170 := n2_; have GE170 := n3_; clear n0_ n1_ n2_ n3_; clear hb hbox hg) | ((with_reducible refine gate_dst (N := 8) rfl ?_); refine box_event ?hg (N := 8) ?hd (cs := #[.int .i64 0, .int .i64 0, .int .i64 0]) (t := 56) ?hr ?_; (case hd => rfl); (case hg => rfl); (case hr => first | (go_simp; done) | (go_simp; rfl)); intro gb171 hg w8 hbox hb; have n0_ := Aside0.mk (blk_below (g := gb170) (o := .cells #[.slice A0_0 l0_0.length c0_0, .int .i64 a0_1, .int .i64 a0_2, .int .i64 a0_3, .slice A0_4 l0_4.length c0_4] 58 (0, 0)) (by (with_reducible repeat (first | refine blk_drewN ?_ _ | refine blk_drew ?_ | refine blk_alloc ?_ _)); exact BK170.out) hb); have n1_ := Aside0.mk (below_step (by repeat (first | (with_reducible first | exact HB.out | apply below_alloc | apply pw_below_drewN | apply below_drew1 | refine below_set ?_ GE170.out) | exact HB.out)) hb); have n2_ := Aside0.mk (hbox); have n3_ := Aside0.mk ((by rw [hg]; exact (below_size (by repeat (first | (with_reducible first | exact HB.out | apply below_alloc | apply pw_below_drewN | apply below_drew1 | refine below_set ?_ GE170.out) | exact HB.out))) : w.heap.size ≤ gb171)); have n4_ := Aside0.mk ((by rw [hg]; exact (below_size (by repeat (first | (with_reducible first | exact HB.out | apply below_alloc | apply pw_below_drewN | apply below_drew1 | refine below_set ?_ GE170.out) | exact HB.out))) : w.heap.size ≤ gb171)); have n5_ := Aside0.mk ((by rw [hg]; exact Nat.ne_of_lt (blk_lt (g := gb170) (o := .cells #[.slice A0_0 l0_0.length c0_0, .int .i64 a0_1, .int .i64 a0_2, .int .i64 a0_3, .slice A0_4 l0_4.length c0_4] 58 (0, 0)) (by (with_reducible repeat (first | refine blk_drewN ?_ _ | refine blk_drew ?_ | refine blk_alloc ?_ _)); exact BK170.out)) : gb170 ≠ gb171)); have n6_ := Aside0.mk ((by rw [hg]; exact Nat.ne_of_gt (blk_lt (g := gb170) (o := .cells #[.slice A0_0 l0_0.length c0_0, .int .i64 a0_1, .int .i64 a0_2, .int .i64 a0_3, .slice A0_4 l0_4.length c0_4] 58 (0, 0)) (by (with_reducible repeat (first | refine blk_drewN ?_ _ | refine blk_drew ?_ | refine blk_alloc ?_ _)); exact BK170.out)) : gb171 ≠ gb170)); clear BK170; clear HB; have BK170 := n0_; have HB := n1_; have BK171 := n2_; have GW171 := n3_; have GE171 := n4_; have NB170_171 := n5_; have NB171_170 := n6_; clear n0_ n1_ n2_ n3_ n4_ n5_ n6_; clear hb hbox hg; have hnb9 := NB170_171.out; have hnc9 := NB171_170.out; have hcz10_0 : w8.cell? ⟨gb170, 0, none⟩ = some (.slice A0_0 l0_0.length c0_0) := (blk_cell BK170.out 0).trans rfl; have hcz10_1 : w8.cell? ⟨gb170, 1, none⟩ = some (.int .i64 a0_1) := (blk_cell BK170.out 1).trans rfl; have hcz10_2 : w8.cell? ⟨gb170, 2, none⟩ = some (.int .i64 a0_2) := (blk_cell BK170.out 2).trans rfl; have hcz10_3 : w8.cell? ⟨gb170, 3, none⟩ = some (.int .i64 a0_3) := (blk_cell BK170.out 3).trans rfl; have hcz10_4 : w8.cell? ⟨gb170, 4, none⟩ = some (.slice A0_4 l0_4.length c0_4) := (blk_cell BK170.out 4).trans rfl; have hfz10_0 := blk_frozen BK170.out 0; have hfz10_1 := blk_frozen BK170.out 1; have hfz10_2 := blk_frozen BK170.out 2; have hfz10_3 := blk_frozen BK170.out 3; have hfz10_4 := blk_frozen BK170.out 4) | ((with_reducible refine gate_callee (f := 65) rfl ?_); refine goesL_ (some 30) rfl rfl Try.func65 (by kernel_rfl) rfl #[.slice A0_0 l0_0.length c0_0, .int .i64 a0_1, .int .i64 a0_3, .int .i64 a0_2, .int .i64 a3, .slice A0_4 l0_4.length c0_4] rfl (by (try simp only [List.map_toArray, List.map_cons, List.map_nil]); first | done | rfl | (simp only [List.length_drop, List.length_take]; rfl)) ?_; (with_reducible refine (late_Times.calls _ _ l0_0 a0_1 a0_3 a0_2 a3 _ _ l0_4 t172 _ ?side1 ?side2 ?side3 ?side4 A5.out).mono ?_); (case side1 => repeat (first | exact (Kd.C_below HR0_0.out HB.out) | (with_reducible refine Kd.C_alloc ?_ _) | (with_reducible refine Kd.C_drewN ?_ _) | (with_reducible refine Kd.C_drew ?_))); (case side2 => exact HC0_0.out); (case side3 => repeat (first | exact (Kd.C_below HR0_4.out HB.out) | (with_reducible refine Kd.C_alloc ?_ _) | (with_reducible refine Kd.C_drewN ?_ _) | (with_reducible refine Kd.C_drew ?_))); (case side4 => exact HC0_4.out); rintro e w11 ⟨v173, rfl, ho0, hb⟩; refine ⟨_, rfl, ?_⟩; have n0_ := Aside0.mk (Kd.R_lower ho0 (below_size (by repeat (first | (with_reducible first | exact HB.out | apply below_alloc | apply pw_below_drewN | apply below_drew1 | refine below_set ?_ GE170.out | refine below_set ?_ GE171.out) | exact HB.out)))); have n1_ := Aside0.mk (blk_below (g := gb170) (o := .cells #[.slice A0_0 l0_0.length c0_0, .int .i64 a0_1, .int .i64 a0_2, .int .i64 a0_3, .slice A0_4 l0_4.length c0_4] 58 (0, 0)) (by (with_reducible repeat (first | refine blk_drewN ?_ _ | refine blk_drew ?_ | refine blk_alloc ?_ _)); exact BK170.out) hb); have n2_ := Aside0.mk (blk_below (g := gb171) (o := .cells #[.int .i64 0, .int .i64 0, .int .i64 0] 56 (0, 0)) (by (with_reducible repeat (first | refine blk_drewN ?_ _ | refine blk_drew ?_ | refine blk_alloc ?_ _)); exact BK171.out) hb); have n3_ := Aside0.mk (below_step (by repeat (first | (with_reducible first | exact HB.out | apply below_alloc | apply pw_below_drewN | apply below_drew1 | refine below_set ?_ GE170.out | refine below_set ?_ GE171.out) | exact HB.out)) hb); clear BK170; clear BK171; clear HB; have HO174 := n0_; have BK170 := n1_; have BK171 := n2_; have HB := n3_; clear n0_ n1_ n2_ n3_; (try clear hb); (try clear hb2); (try clear hk); (try clear hi); (try clear ho0); have hcz12_0 : w11.cell? ⟨gb170, 0, none⟩ = some (.slice A0_0 l0_0.length c0_0) := (blk_cell BK170.out 0).trans rfl; have hcz12_1 : w11.cell? ⟨gb170, 1, none⟩ = some (.int .i64 a0_1) := (blk_cell BK170.out 1).trans rfl; have hcz12_2 : w11.cell? ⟨gb170, 2, none⟩ = some (.int .i64 a0_2) := (blk_cell BK170.out 2).trans rfl; have hcz12_3 : w11.cell? ⟨gb170, 3, none⟩ = some (.int .i64 a0_3) := (blk_cell BK170.out 3).trans rfl; have hcz12_4 : w11.cell? ⟨gb170, 4, none⟩ = some (.slice A0_4 l0_4.length c0_4) := (blk_cell BK170.out 4).trans rfl; have hfz12_0 := blk_frozen BK170.out 0; have hfz12_1 := blk_frozen BK170.out 1; have hfz12_2 := blk_frozen BK170.out 2; have hfz12_3 := blk_frozen BK170.out 3; have hfz12_4 := blk_frozen BK170.out 4) | ((with_reducible refine gate_callee (f := 45) rfl ?_); refine goesL_ (some 34) rfl rfl Try.func45 (by kernel_rfl) rfl #[.slice A0_0 l0_0.length c0_0, .int .i64 a1] rfl (by (try simp only [List.map_toArray, List.map_cons, List.map_nil]); first | done | rfl | (simp only [List.length_drop, List.length_take]; rfl)) ?_; (with_reducible refine (view_From.calls k _ _ l0_0 a1 t175 _ ?side1 ?side2 A6.out).mono ?_); (case side1 => repeat (first | exact (Kd.C_below HR0_0.out HB.out) | (with_reducible refine Kd.C_alloc ?_ _) | (with_reducible refine Kd.C_drewN ?_ _) | (with_reducible refine Kd.C_drew ?_))); (case side2 => exact HC0_0.out); rintro e w13 ⟨v176, rfl, ho0, hb⟩; refine ⟨_, rfl, ?_⟩; have n0_ := Aside0.mk (Kd.R_below (by (with_reducible repeat (first | apply Kd.R_alloc | apply Kd.R_drewN | apply Kd.R_drew)); exact HO174.out) hb); have n1_ := Aside0.mk (Kd.R_lower ho0 (below_size (by repeat (first | (with_reducible first | exact HB.out | apply below_alloc | apply pw_below_drewN | apply below_drew1 | refine below_set ?_ GE170.out | refine below_set ?_ GE171.out) | exact HB.out)))); have n2_ := Aside0.mk (blk_below (g := gb170) (o := .cells #[.slice A0_0 l0_0.length c0_0, .int .i64 a0_1, .int .i64 a0_2, .int .i64 a0_3, .slice A0_4 l0_4.length c0_4] 58 (0, 0)) (by (with_reducible repeat (first | refine blk_drewN ?_ _ | refine blk_drew ?_ | refine blk_alloc ?_ _)); exact BK170.out) hb); have n3_ := Aside0.mk (blk_below (g := gb171) (o := .cells #[.int .i64 0, .int .i64 0, .int .i64 0] 56 (0, 0)) (by (with_reducible repeat (first | refine blk_drewN ?_ _ | refine blk_drew ?_ | refine blk_alloc ?_ _)); exact BK171.out) hb); have n4_ := Aside0.mk (below_step (by repeat (first | (with_reducible first | exact HB.out | apply below_alloc | apply pw_below_drewN | apply below_drew1 | refine below_set ?_ GE170.out | refine below_set ?_ GE171.out) | exact HB.out)) hb); clear HO174; clear BK170; clear BK171; clear HB; have HO174 := n0_; have HO177 := n1_; have BK170 := n2_; have BK171 := n3_; have HB := n4_; clear n0_ n1_ n2_ n3_ n4_; (try clear hb); (try clear hb2); (try clear hk); (try clear hi); (try clear ho0); obtain ⟨Ao14, co14, eo14⟩ := Kd.R_slice HO177.out; subst eo14))
  go_loopg [36] k (fun kq v36 w' => ∃ (x36_1 : Int) (x172000_1 : Int) (x172001_1 : Int) (x172002_1 : Int), v36 = .int .i64 x36_1 ∧ Aside0 (least_search_next.l0 kq a2 t172 t175 (t175.length : Int) x36_1 l0_0 a0_1 a0_2 a0_3 l0_4 = some (r1, r2, r3, r4, r5)) ∧ Aside0 (kq ≤ k) ∧ Aside0 (Kd.R k71 71 w' w.heap.size (fun _ => True) v173 t172) ∧ Aside0 (Kd.R k65 65 w' w.heap.size (fun _ => True) (.slice Ao14 t175.length co14) t175) ∧ Aside0 (w'.heap[gb170]? = some (.cells #[(.slice A0_0 l0_0.length c0_0), .int .i64 a0_1, .int .i64 a0_2, .int .i64 a0_3, (.slice A0_4 l0_4.length c0_4)] 58 (0, 0))) ∧ Aside0 (w'.heap[gb171]? = some (.cells #[.int .i64 x172000_1, .int .i64 x172001_1, .int .i64 x172002_1] 56 (0, 0))) ∧ Aside0 (Below w.heap.size w w'))
  case atStart => exact ⟨(0), (0), (0), (0), (by first | rfl | (simp; done) | (simp [*]; done)), H', ⟨Nat.le_refl _⟩, ⟨by (with_reducible repeat (first | apply Kd.R_alloc | apply Kd.R_drewN | apply Kd.R_drew)); exact HO174.out⟩, ⟨by (with_reducible repeat (first | apply Kd.R_alloc | apply Kd.R_drewN | apply Kd.R_drew)); exact HO177.out⟩, ⟨by (with_reducible repeat (first | refine blk_drewN ?_ _ | refine blk_drew ?_ | refine blk_alloc ?_ _)); exact BK170.out⟩, ⟨by (with_reducible repeat (first | refine blk_drewN ?_ _ | refine blk_drew ?_ | refine blk_alloc ?_ _)); exact BK171.out⟩, ⟨by repeat (first | (with_reducible first | exact HB.out | apply below_alloc | apply pw_below_drewN | apply below_drew1 | refine below_set ?_ GE170.out | refine below_set ?_ GE171.out) | exact HB.out)⟩⟩
  case round =>
    clear H'
    try clear p2
    try clear c3
    try clear c4
    try clear c6
    try clear c9
    try clear hcz10_0
    try clear hcz10_1
    try clear hcz10_2
    try clear hcz10_3
    try clear hcz10_4
    try clear hcz12_0
    try clear hcz12_1
    try clear hcz12_2
    try clear hcz12_3
    try clear hcz12_4
    try clear hfz10_0
    try clear hfz10_1
    try clear hfz10_2
    try clear hfz10_3
    try clear hfz10_4
    try clear hfz12_0
    try clear hfz12_1
    try clear hfz12_2
    try clear hfz12_3
    try clear hfz12_4
    obtain ⟨x36_1, x172000_1, x172001_1, x172002_1, rfl, HA, HK1, HO_11, HO_34, BK170, BK171, HB⟩ := hrel
    cases gk with
    | zero => exact absurd HA.out (by simp [least_search_next.l0])
    | succ k1 =>
      have H := HA.out
      clear HA
      simp only [least_search_next.l0] at H
      by_cases c15 : x36_1 < (t175.length : Int)
      · rw [if_pos c15] at H
        have c15b0 : decide (x36_1 < (t175.length : Int)) = true := decide_eq_true c15
        clear c15
        by_cases c16 : 0 ≤ x36_1
        · rw [if_pos c16] at H
          have c16b0 : decide (0 ≤ x36_1) = true := decide_eq_true c16
          clear c16
          by_cases c17 : x36_1 < (t175.length : Int)
          · rw [if_pos c17] at H
            have c17b0 : decide (x36_1 < (t175.length : Int)) = true := decide_eq_true c17
            clear c17
            replace H := Option.bind_eq_some_iff.mp H
            obtain ⟨⟨t180, t181, t182⟩, A180, H⟩ := H
            replace H : ((early_At.f k1 t172 ((rd_T65 t175 x36_1).f2)).bind fun bt183 => (if t182 = true then (if bt183.2 = true then (if t181 ≤ bt183.1 then (if ((rd_T65 t175 x36_1).f2) = a0_1 then (some ((rd_T65 t175 x36_1).f0, t180, t181, (rd_T65 t175 x36_1).f2, true)) else ((slices_Contains_int_int.f k1 l0_4 ((rd_T65 t175 x36_1).f2)).bind fun t185 => (if t185 = true then (least_search_next.l0 k1 a2 t172 t175 (t175.length : Int) (wrap64 (x36_1 + 1)) l0_0 a0_1 a0_2 a0_3 l0_4) else (some ((rd_T65 t175 x36_1).f0, t180, t181, (rd_T65 t175 x36_1).f2, true))))) else (least_search_next.l0 k1 a2 t172 t175 (t175.length : Int) (wrap64 (x36_1 + 1)) l0_0 a0_1 a0_2 a0_3 l0_4)) else (least_search_next.l0 k1 a2 t172 t175 (t175.length : Int) (wrap64 (x36_1 + 1)) l0_0 a0_1 a0_2 a0_3 l0_4)) else (least_search_next.l0 k1 a2 t172 t175 (t175.length : Int) (wrap64 (x36_1 + 1)) l0_0 a0_1 a0_2 a0_3 l0_4))) = some (r1, r2, r3, r4, r5) := H
            have A18 := Aside0.mk A180
            clear A180
            replace H := Option.bind_eq_some_iff.mp H
            obtain ⟨⟨t183, t184⟩, A190, H⟩ := H
            replace H : (if t182 = true then (if t184 = true then (if t181 ≤ t183 then (if ((rd_T65 t175 x36_1).f2) = a0_1 then (some ((rd_T65 t175 x36_1).f0, t180, t181, (rd_T65 t175 x36_1).f2, true)) else ((slices_Contains_int_int.f k1 l0_4 ((rd_T65 t175 x36_1).f2)).bind fun t185 => (if t185 = true then (least_search_next.l0 k1 a2 t172 t175 (t175.length : Int) (wrap64 (x36_1 + 1)) l0_0 a0_1 a0_2 a0_3 l0_4) else (some ((rd_T65 t175 x36_1).f0, t180, t181, (rd_T65 t175 x36_1).f2, true))))) else (least_search_next.l0 k1 a2 t172 t175 (t175.length : Int) (wrap64 (x36_1 + 1)) l0_0 a0_1 a0_2 a0_3 l0_4)) else (least_search_next.l0 k1 a2 t172 t175 (t175.length : Int) (wrap64 (x36_1 + 1)) l0_0 a0_1 a0_2 a0_3 l0_4)) else (least_search_next.l0 k1 a2 t172 t175 (t175.length : Int) (wrap64 (x36_1 + 1)) l0_0 a0_1 a0_2 a0_3 l0_4)) = some (r1, r2, r3, r4, r5) := H
            have A19 := Aside0.mk A190
            clear A190
            by_cases c20 : t182 = true
            · subst c20
              have H1 : (if t184 = true then (if t181 ≤ t183 then (if ((rd_T65 t175 x36_1).f2) = a0_1 then (some ((rd_T65 t175 x36_1).f0, t180, t181, (rd_T65 t175 x36_1).f2, true)) else ((slices_Contains_int_int.f k1 l0_4 ((rd_T65 t175 x36_1).f2)).bind fun t185 => (if t185 = true then (least_search_next.l0 k1 a2 t172 t175 (t175.length : Int) (wrap64 (x36_1 + 1)) l0_0 a0_1 a0_2 a0_3 l0_4) else (some ((rd_T65 t175 x36_1).f0, t180, t181, (rd_T65 t175 x36_1).f2, true))))) else (least_search_next.l0 k1 a2 t172 t175 (t175.length : Int) (wrap64 (x36_1 + 1)) l0_0 a0_1 a0_2 a0_3 l0_4)) else (least_search_next.l0 k1 a2 t172 t175 (t175.length : Int) (wrap64 (x36_1 + 1)) l0_0 a0_1 a0_2 a0_3 l0_4)) = some (r1, r2, r3, r4, r5) := by rw [if_pos rfl] at H; exact H
              clear H
              have H := H1
              clear H1
              by_cases c21 : t184 = true
              · subst c21
                have H1 : (if t181 ≤ t183 then (if ((rd_T65 t175 x36_1).f2) = a0_1 then (some ((rd_T65 t175 x36_1).f0, t180, t181, (rd_T65 t175 x36_1).f2, true)) else ((slices_Contains_int_int.f k1 l0_4 ((rd_T65 t175 x36_1).f2)).bind fun t185 => (if t185 = true then (least_search_next.l0 k1 a2 t172 t175 (t175.length : Int) (wrap64 (x36_1 + 1)) l0_0 a0_1 a0_2 a0_3 l0_4) else (some ((rd_T65 t175 x36_1).f0, t180, t181, (rd_T65 t175 x36_1).f2, true))))) else (least_search_next.l0 k1 a2 t172 t175 (t175.length : Int) (wrap64 (x36_1 + 1)) l0_0 a0_1 a0_2 a0_3 l0_4)) = some (r1, r2, r3, r4, r5) := by rw [if_pos rfl] at H; exact H
                clear H
                have H := H1
                clear H1
                by_cases c22 : t181 ≤ t183
                · rw [if_pos c22] at H
                  have c22b0 : decide (t181 ≤ t183) = true := decide_eq_true c22
                  clear c22
                  by_cases c23 : ((rd_T65 t175 x36_1).f2) = a0_1
                  · rw [if_pos c23] at H
                    have c23b0 : (((rd_T65 t175 x36_1).f2) == a0_1) = true := beq_iff_eq.mpr c23
                    have c23b1 : (((rd_T65 t175 x36_1).f2) != a0_1) = false := bne_eq_false_iff_eq.mpr c23
                    clear c23
                    simp only [Option.some.injEq, Prod.mk.injEq] at H
                    obtain ⟨rfl, rfl, rfl, rfl, rfl⟩ := H
                    have p178 : 0 ≤ (x36_1 : Int) := of_decide_eq_true (by first | (with_reducible assumption) | assumption)
                    have q178 : x36_1 < (t175.length : Int) := of_decide_eq_true (by first | (with_reducible assumption) | assumption)
                    obtain ⟨ad178, e178, hx178_0, hx178_1, hx178_2, hx178_3, hx178_4, hx178_5, hx178_6, hx178_7⟩ := at_T65 (Kd.R_reads' HO_34.out).2.2 x36_1 p178 q178
                    cases e178
                    replace p178 := eq_true p178
                    replace q178 := eq_true q178
                    try go_wp2_with (first | ((with_reducible refine gate_dst (N := 13) rfl ?_); refine box_event ?hg (N := 13) ?hd (cs := #[.int .i64 0, .int .i64 0, .int .i64 0, .int .i64 0, .int .i64 0, .int .i64 0, .int .i64 0, .int .i64 0]) (t := 65) ?hr ?_; (case hd => rfl); (case hg => rfl); (case hr => first | (go_simp; done) | (go_simp; rfl)); intro gb179 hg w24 hbox hb; have n0_ := Aside0.mk (Kd.R_below (by (with_reducible repeat (first | apply Kd.R_alloc | apply Kd.R_drewN | apply Kd.R_drew)); exact HO_11.out) hb); have n1_ := Aside0.mk (Kd.R_below (Kd.R_elderB (by (with_reducible repeat (first | apply Kd.R_alloc | apply Kd.R_drewN | apply Kd.R_drew)); exact HO_34.out) gb179 (Nat.le_of_eq hg.symm)) hb); have n2_ := Aside0.mk (blk_below (g := gb170) (o := .cells #[.slice A0_0 l0_0.length c0_0, .int .i64 a0_1, .int .i64 a0_2, .int .i64 a0_3, .slice A0_4 l0_4.length c0_4] 58 (0, 0)) (by (with_reducible repeat (first | refine blk_drewN ?_ _ | refine blk_drew ?_ | refine blk_alloc ?_ _)); exact BK170.out) hb); have n3_ := Aside0.mk (blk_below (g := gb171) (o := .cells #[.int .i64 x172000_1, .int .i64 x172001_1, .int .i64 x172002_1] 56 (0, 0)) (by (with_reducible repeat (first | refine blk_drewN ?_ _ | refine blk_drew ?_ | refine blk_alloc ?_ _)); exact BK171.out) hb); have n4_ := Aside0.mk (below_step (by repeat (first | (with_reducible first | exact HB.out | apply below_alloc | apply pw_below_drewN | apply below_drew1 | refine below_set ?_ GE170.out | refine below_set ?_ GE171.out) | exact HB.out)) hb); have n5_ := Aside0.mk (hbox); have n6_ := Aside0.mk ((by rw [hg]; exact (below_size (by repeat (first | (with_reducible first | exact HB.out | apply below_alloc | apply pw_below_drewN | apply below_drew1 | refine below_set ?_ GE170.out | refine below_set ?_ GE171.out) | exact HB.out))) : w.heap.size ≤ gb179)); have n7_ := Aside0.mk ((by rw [hg]; exact (below_size (by repeat (first | (with_reducible first | exact HB.out | apply below_alloc | apply pw_below_drewN | apply below_drew1 | refine below_set ?_ GE170.out | refine below_set ?_ GE171.out) | exact HB.out))) : w.heap.size ≤ gb179)); have n8_ := Aside0.mk ((by rw [hg]; exact Nat.ne_of_lt (blk_lt (g := gb170) (o := .cells #[.slice A0_0 l0_0.length c0_0, .int .i64 a0_1, .int .i64 a0_2, .int .i64 a0_3, .slice A0_4 l0_4.length c0_4] 58 (0, 0)) (by (with_reducible repeat (first | refine blk_drewN ?_ _ | refine blk_drew ?_ | refine blk_alloc ?_ _)); exact BK170.out)) : gb170 ≠ gb179)); have n9_ := Aside0.mk ((by rw [hg]; exact Nat.ne_of_gt (blk_lt (g := gb170) (o := .cells #[.slice A0_0 l0_0.length c0_0, .int .i64 a0_1, .int .i64 a0_2, .int .i64 a0_3, .slice A0_4 l0_4.length c0_4] 58 (0, 0)) (by (with_reducible repeat (first | refine blk_drewN ?_ _ | refine blk_drew ?_ | refine blk_alloc ?_ _)); exact BK170.out)) : gb179 ≠ gb170)); have n10_ := Aside0.mk ((by rw [hg]; exact Nat.ne_of_lt (blk_lt (g := gb171) (o := .cells #[.int .i64 x172000_1, .int .i64 x172001_1, .int .i64 x172002_1] 56 (0, 0)) (by (with_reducible repeat (first | refine blk_drewN ?_ _ | refine blk_drew ?_ | refine blk_alloc ?_ _)); exact BK171.out)) : gb171 ≠ gb179)); have n11_ := Aside0.mk ((by rw [hg]; exact Nat.ne_of_gt (blk_lt (g := gb171) (o := .cells #[.int .i64 x172000_1, .int .i64 x172001_1, .int .i64 x172002_1] 56 (0, 0)) (by (with_reducible repeat (first | refine blk_drewN ?_ _ | refine blk_drew ?_ | refine blk_alloc ?_ _)); exact BK171.out)) : gb179 ≠ gb171)); clear HO_11; clear HO_34; clear BK170; clear BK171; clear HB; have HO_11 := n0_; have HO_34 := n1_; have BK170 := n2_; have BK171 := n3_; have HB := n4_; have BK179 := n5_; have GW179 := n6_; have GE179 := n7_; have NB170_179 := n8_; have NB179_170 := n9_; have NB171_179 := n10_; have NB179_171 := n11_; clear n0_ n1_ n2_ n3_ n4_ n5_ n6_ n7_ n8_ n9_ n10_ n11_; clear hb hbox hg; have hnb25 := NB179_170.out; have hnc25 := NB170_179.out; have hnb26 := NB179_171.out; have hnc26 := NB171_179.out; have hcz27_0 : w24.cell? ⟨gb179, 0, none⟩ = some (.int .i64 0) := (blk_cell BK179.out 0).trans rfl; have hcz27_1 : w24.cell? ⟨gb179, 1, none⟩ = some (.int .i64 0) := (blk_cell BK179.out 1).trans rfl; have hcz27_2 : w24.cell? ⟨gb179, 2, none⟩ = some (.int .i64 0) := (blk_cell BK179.out 2).trans rfl; have hcz27_3 : w24.cell? ⟨gb179, 3, none⟩ = some (.int .i64 0) := (blk_cell BK179.out 3).trans rfl; have hcz27_4 : w24.cell? ⟨gb179, 4, none⟩ = some (.int .i64 0) := (blk_cell BK179.out 4).trans rfl; have hcz27_5 : w24.cell? ⟨gb179, 5, none⟩ = some (.int .i64 0) := (blk_cell BK179.out 5).trans rfl; have hcz27_6 : w24.cell? ⟨gb179, 6, none⟩ = some (.int .i64 0) := (blk_cell BK179.out 6).trans rfl; have hcz27_7 : w24.cell? ⟨gb179, 7, none⟩ = some (.int .i64 0) := (blk_cell BK179.out 7).trans rfl; have hfz27_0 := blk_frozen BK179.out 0; have hfz27_1 := blk_frozen BK179.out 1; have hfz27_2 := blk_frozen BK179.out 2; have hfz27_3 := blk_frozen BK179.out 3; have hfz27_4 := blk_frozen BK179.out 4; have hfz27_5 := blk_frozen BK179.out 5; have hfz27_6 := blk_frozen BK179.out 6; have hfz27_7 := blk_frozen BK179.out 7; have hnb28 := NB170_171.out; have hnc28 := NB171_170.out; have hcz29_0 : w24.cell? ⟨gb170, 0, none⟩ = some (.slice A0_0 l0_0.length c0_0) := (blk_cell BK170.out 0).trans rfl; have hcz29_1 : w24.cell? ⟨gb170, 1, none⟩ = some (.int .i64 a0_1) := (blk_cell BK170.out 1).trans rfl; have hcz29_2 : w24.cell? ⟨gb170, 2, none⟩ = some (.int .i64 a0_2) := (blk_cell BK170.out 2).trans rfl; have hcz29_3 : w24.cell? ⟨gb170, 3, none⟩ = some (.int .i64 a0_3) := (blk_cell BK170.out 3).trans rfl; have hcz29_4 : w24.cell? ⟨gb170, 4, none⟩ = some (.slice A0_4 l0_4.length c0_4) := (blk_cell BK170.out 4).trans rfl; have hfz29_0 := blk_frozen BK170.out 0; have hfz29_1 := blk_frozen BK170.out 1; have hfz29_2 := blk_frozen BK170.out 2; have hfz29_3 := blk_frozen BK170.out 3; have hfz29_4 := blk_frozen BK170.out 4) | ((with_reducible refine gate_callee (f := 46) rfl ?_); refine goesL_ (some 45) rfl rfl Try.func46 (by kernel_rfl) rfl #[.agg #[.int .i64 ((rd_T65 t175 x36_1).f0), .int .i64 ((rd_T65 t175 x36_1).f1), .int .i64 ((rd_T65 t175 x36_1).f2), .int .i64 ((rd_T65 t175 x36_1).f3), .int .i64 ((rd_T65 t175 x36_1).f4), .int .i64 ((rd_T65 t175 x36_1).f5), .int .i64 ((rd_T65 t175 x36_1).f6), .int .i64 ((rd_T65 t175 x36_1).f7)], .int .i64 a2, .int .i64 a0_2] rfl (by (try simp only [List.map_toArray, List.map_cons, List.map_nil]); first | done | rfl | (simp only [List.length_drop, List.length_take]; rfl)) ?_; (with_reducible refine (hop_Pass.calls k1 ((rd_T65 t175 x36_1).f0) ((rd_T65 t175 x36_1).f1) ((rd_T65 t175 x36_1).f2) ((rd_T65 t175 x36_1).f3) ((rd_T65 t175 x36_1).f4) ((rd_T65 t175 x36_1).f5) ((rd_T65 t175 x36_1).f6) ((rd_T65 t175 x36_1).f7) a2 a0_2 t180 t181 true _ A18.out).mono ?_); rintro e w30 ⟨rfl, hb⟩; refine ⟨_, rfl, ?_⟩; have n0_ := Aside0.mk (Kd.R_below (by (with_reducible repeat (first | apply Kd.R_alloc | apply Kd.R_drewN | apply Kd.R_drew)); exact (Kd.R_mono (Kd.R_far (p := ⟨gb179, 7, none⟩) (Kd.R_far (p := ⟨gb179, 6, none⟩) (Kd.R_far (p := ⟨gb179, 5, none⟩) (Kd.R_far (p := ⟨gb179, 4, none⟩) (Kd.R_far (p := ⟨gb179, 3, none⟩) (Kd.R_far (p := ⟨gb179, 2, none⟩) (Kd.R_far (p := ⟨gb179, 1, none⟩) (Kd.R_far (p := ⟨gb179, 0, none⟩) (Kd.R_types HO_11.out BK179.out (by decide)) (fun _ hk => hk.2) (.int .i64 ((rd_T65 t175 x36_1).f0))) (fun _ hk => hk.2) (.int .i64 ((rd_T65 t175 x36_1).f1))) (fun _ hk => hk.2) (.int .i64 ((rd_T65 t175 x36_1).f2))) (fun _ hk => hk.2) (.int .i64 ((rd_T65 t175 x36_1).f3))) (fun _ hk => hk.2) (.int .i64 ((rd_T65 t175 x36_1).f4))) (fun _ hk => hk.2) (.int .i64 ((rd_T65 t175 x36_1).f5))) (fun _ hk => hk.2) (.int .i64 ((rd_T65 t175 x36_1).f6))) (fun _ hk => hk.2) (.int .i64 ((rd_T65 t175 x36_1).f7))) (fun _ h_ => h_.1))) hb); have n1_ := Aside0.mk (Kd.R_below (by (with_reducible repeat (first | apply Kd.R_alloc | apply Kd.R_drewN | apply Kd.R_drew)); exact (Kd.R_mono (Kd.R_far (p := ⟨gb179, 7, none⟩) (Kd.R_far (p := ⟨gb179, 6, none⟩) (Kd.R_far (p := ⟨gb179, 5, none⟩) (Kd.R_far (p := ⟨gb179, 4, none⟩) (Kd.R_far (p := ⟨gb179, 3, none⟩) (Kd.R_far (p := ⟨gb179, 2, none⟩) (Kd.R_far (p := ⟨gb179, 1, none⟩) (Kd.R_far (p := ⟨gb179, 0, none⟩) (Kd.R_mono HO_34.out (fun k_ hk => (⟨hk, hk.2⟩ : _ ∧ k_ ≠ gb179))) (fun _ hk => hk.2) (.int .i64 ((rd_T65 t175 x36_1).f0))) (fun _ hk => hk.2) (.int .i64 ((rd_T65 t175 x36_1).f1))) (fun _ hk => hk.2) (.int .i64 ((rd_T65 t175 x36_1).f2))) (fun _ hk => hk.2) (.int .i64 ((rd_T65 t175 x36_1).f3))) (fun _ hk => hk.2) (.int .i64 ((rd_T65 t175 x36_1).f4))) (fun _ hk => hk.2) (.int .i64 ((rd_T65 t175 x36_1).f5))) (fun _ hk => hk.2) (.int .i64 ((rd_T65 t175 x36_1).f6))) (fun _ hk => hk.2) (.int .i64 ((rd_T65 t175 x36_1).f7))) (fun _ h_ => h_.1))) hb); have n2_ := Aside0.mk (blk_below (g := gb170) (o := .cells #[.slice A0_0 l0_0.length c0_0, .int .i64 a0_1, .int .i64 a0_2, .int .i64 a0_3, .slice A0_4 l0_4.length c0_4] 58 (0, 0)) (by (with_reducible repeat (first | refine blk_drewN ?_ _ | refine blk_drew ?_ | refine blk_alloc ?_ _)); refine blk_far ?_ NB170_179.out _; (with_reducible repeat (first | refine blk_drewN ?_ _ | refine blk_drew ?_ | refine blk_alloc ?_ _)); refine blk_far ?_ NB170_179.out _; (with_reducible repeat (first | refine blk_drewN ?_ _ | refine blk_drew ?_ | refine blk_alloc ?_ _)); refine blk_far ?_ NB170_179.out _; (with_reducible repeat (first | refine blk_drewN ?_ _ | refine blk_drew ?_ | refine blk_alloc ?_ _)); refine blk_far ?_ NB170_179.out _; (with_reducible repeat (first | refine blk_drewN ?_ _ | refine blk_drew ?_ | refine blk_alloc ?_ _)); refine blk_far ?_ NB170_179.out _; (with_reducible repeat (first | refine blk_drewN ?_ _ | refine blk_drew ?_ | refine blk_alloc ?_ _)); refine blk_far ?_ NB170_179.out _; (with_reducible repeat (first | refine blk_drewN ?_ _ | refine blk_drew ?_ | refine blk_alloc ?_ _)); refine blk_far ?_ NB170_179.out _; (with_reducible repeat (first | refine blk_drewN ?_ _ | refine blk_drew ?_ | refine blk_alloc ?_ _)); refine blk_far ?_ NB170_179.out _; (with_reducible repeat (first | refine blk_drewN ?_ _ | refine blk_drew ?_ | refine blk_alloc ?_ _)); exact BK170.out) hb); have n3_ := Aside0.mk (blk_below (g := gb171) (o := .cells #[.int .i64 x172000_1, .int .i64 x172001_1, .int .i64 x172002_1] 56 (0, 0)) (by (with_reducible repeat (first | refine blk_drewN ?_ _ | refine blk_drew ?_ | refine blk_alloc ?_ _)); refine blk_far ?_ NB171_179.out _; (with_reducible repeat (first | refine blk_drewN ?_ _ | refine blk_drew ?_ | refine blk_alloc ?_ _)); refine blk_far ?_ NB171_179.out _; (with_reducible repeat (first | refine blk_drewN ?_ _ | refine blk_drew ?_ | refine blk_alloc ?_ _)); refine blk_far ?_ NB171_179.out _; (with_reducible repeat (first | refine blk_drewN ?_ _ | refine blk_drew ?_ | refine blk_alloc ?_ _)); refine blk_far ?_ NB171_179.out _; (with_reducible repeat (first | refine blk_drewN ?_ _ | refine blk_drew ?_ | refine blk_alloc ?_ _)); refine blk_far ?_ NB171_179.out _; (with_reducible repeat (first | refine blk_drewN ?_ _ | refine blk_drew ?_ | refine blk_alloc ?_ _)); refine blk_far ?_ NB171_179.out _; (with_reducible repeat (first | refine blk_drewN ?_ _ | refine blk_drew ?_ | refine blk_alloc ?_ _)); refine blk_far ?_ NB171_179.out _; (with_reducible repeat (first | refine blk_drewN ?_ _ | refine blk_drew ?_ | refine blk_alloc ?_ _)); refine blk_far ?_ NB171_179.out _; (with_reducible repeat (first | refine blk_drewN ?_ _ | refine blk_drew ?_ | refine blk_alloc ?_ _)); exact BK171.out) hb); have n4_ := Aside0.mk (blk_below (g := gb179) (o := .cells #[.int .i64 ((rd_T65 t175 x36_1).f0), .int .i64 ((rd_T65 t175 x36_1).f1), .int .i64 ((rd_T65 t175 x36_1).f2), .int .i64 ((rd_T65 t175 x36_1).f3), .int .i64 ((rd_T65 t175 x36_1).f4), .int .i64 ((rd_T65 t175 x36_1).f5), .int .i64 ((rd_T65 t175 x36_1).f6), .int .i64 ((rd_T65 t175 x36_1).f7)] 65 (0, 0)) (by (with_reducible repeat (first | refine blk_drewN ?_ _ | refine blk_drew ?_ | refine blk_alloc ?_ _)); refine blk_put (cs := #[.int .i64 ((rd_T65 t175 x36_1).f0), .int .i64 ((rd_T65 t175 x36_1).f1), .int .i64 ((rd_T65 t175 x36_1).f2), .int .i64 ((rd_T65 t175 x36_1).f3), .int .i64 ((rd_T65 t175 x36_1).f4), .int .i64 ((rd_T65 t175 x36_1).f5), .int .i64 ((rd_T65 t175 x36_1).f6), .int .i64 0]) ?_ 7 _ rfl; (with_reducible repeat (first | refine blk_drewN ?_ _ | refine blk_drew ?_ | refine blk_alloc ?_ _)); refine blk_put (cs := #[.int .i64 ((rd_T65 t175 x36_1).f0), .int .i64 ((rd_T65 t175 x36_1).f1), .int .i64 ((rd_T65 t175 x36_1).f2), .int .i64 ((rd_T65 t175 x36_1).f3), .int .i64 ((rd_T65 t175 x36_1).f4), .int .i64 ((rd_T65 t175 x36_1).f5), .int .i64 0, .int .i64 0]) ?_ 6 _ rfl; (with_reducible repeat (first | refine blk_drewN ?_ _ | refine blk_drew ?_ | refine blk_alloc ?_ _)); refine blk_put (cs := #[.int .i64 ((rd_T65 t175 x36_1).f0), .int .i64 ((rd_T65 t175 x36_1).f1), .int .i64 ((rd_T65 t175 x36_1).f2), .int .i64 ((rd_T65 t175 x36_1).f3), .int .i64 ((rd_T65 t175 x36_1).f4), .int .i64 0, .int .i64 0, .int .i64 0]) ?_ 5 _ rfl; (with_reducible repeat (first | refine blk_drewN ?_ _ | refine blk_drew ?_ | refine blk_alloc ?_ _)); refine blk_put (cs := #[.int .i64 ((rd_T65 t175 x36_1).f0), .int .i64 ((rd_T65 t175 x36_1).f1), .int .i64 ((rd_T65 t175 x36_1).f2), .int .i64 ((rd_T65 t175 x36_1).f3), .int .i64 0, .int .i64 0, .int .i64 0, .int .i64 0]) ?_ 4 _ rfl; (with_reducible repeat (first | refine blk_drewN ?_ _ | refine blk_drew ?_ | refine blk_alloc ?_ _)); refine blk_put (cs := #[.int .i64 ((rd_T65 t175 x36_1).f0), .int .i64 ((rd_T65 t175 x36_1).f1), .int .i64 ((rd_T65 t175 x36_1).f2), .int .i64 0, .int .i64 0, .int .i64 0, .int .i64 0, .int .i64 0]) ?_ 3 _ rfl; (with_reducible repeat (first | refine blk_drewN ?_ _ | refine blk_drew ?_ | refine blk_alloc ?_ _)); refine blk_put (cs := #[.int .i64 ((rd_T65 t175 x36_1).f0), .int .i64 ((rd_T65 t175 x36_1).f1), .int .i64 0, .int .i64 0, .int .i64 0, .int .i64 0, .int .i64 0, .int .i64 0]) ?_ 2 _ rfl; (with_reducible repeat (first | refine blk_drewN ?_ _ | refine blk_drew ?_ | refine blk_alloc ?_ _)); refine blk_put (cs := #[.int .i64 ((rd_T65 t175 x36_1).f0), .int .i64 0, .int .i64 0, .int .i64 0, .int .i64 0, .int .i64 0, .int .i64 0, .int .i64 0]) ?_ 1 _ rfl; (with_reducible repeat (first | refine blk_drewN ?_ _ | refine blk_drew ?_ | refine blk_alloc ?_ _)); refine blk_put (cs := #[.int .i64 0, .int .i64 0, .int .i64 0, .int .i64 0, .int .i64 0, .int .i64 0, .int .i64 0, .int .i64 0]) ?_ 0 _ rfl; (with_reducible repeat (first | refine blk_drewN ?_ _ | refine blk_drew ?_ | refine blk_alloc ?_ _)); exact BK179.out) hb); have n5_ := Aside0.mk (below_step (by repeat (first | (with_reducible first | exact HB.out | apply below_alloc | apply pw_below_drewN | apply below_drew1 | refine below_set ?_ GE170.out | refine below_set ?_ GE171.out | refine below_set ?_ GE179.out) | exact HB.out)) hb); clear HO_11; clear HO_34; clear BK170; clear BK171; clear BK179; clear HB; have HO_11 := n0_; have HO_34 := n1_; have BK170 := n2_; have BK171 := n3_; have BK179 := n4_; have HB := n5_; clear n0_ n1_ n2_ n3_ n4_ n5_; (try clear hb); (try clear hb2); (try clear hk); (try clear hi); have hcz31_0 : w30.cell? ⟨gb179, 0, none⟩ = some (.int .i64 ((rd_T65 t175 x36_1).f0)) := (blk_cell BK179.out 0).trans rfl; have hcz31_1 : w30.cell? ⟨gb179, 1, none⟩ = some (.int .i64 ((rd_T65 t175 x36_1).f1)) := (blk_cell BK179.out 1).trans rfl; have hcz31_2 : w30.cell? ⟨gb179, 2, none⟩ = some (.int .i64 ((rd_T65 t175 x36_1).f2)) := (blk_cell BK179.out 2).trans rfl; have hcz31_3 : w30.cell? ⟨gb179, 3, none⟩ = some (.int .i64 ((rd_T65 t175 x36_1).f3)) := (blk_cell BK179.out 3).trans rfl; have hcz31_4 : w30.cell? ⟨gb179, 4, none⟩ = some (.int .i64 ((rd_T65 t175 x36_1).f4)) := (blk_cell BK179.out 4).trans rfl; have hcz31_5 : w30.cell? ⟨gb179, 5, none⟩ = some (.int .i64 ((rd_T65 t175 x36_1).f5)) := (blk_cell BK179.out 5).trans rfl; have hcz31_6 : w30.cell? ⟨gb179, 6, none⟩ = some (.int .i64 ((rd_T65 t175 x36_1).f6)) := (blk_cell BK179.out 6).trans rfl; have hcz31_7 : w30.cell? ⟨gb179, 7, none⟩ = some (.int .i64 ((rd_T65 t175 x36_1).f7)) := (blk_cell BK179.out 7).trans rfl; have hfz31_0 := blk_frozen BK179.out 0; have hfz31_1 := blk_frozen BK179.out 1; have hfz31_2 := blk_frozen BK179.out 2; have hfz31_3 := blk_frozen BK179.out 3; have hfz31_4 := blk_frozen BK179.out 4; have hfz31_5 := blk_frozen BK179.out 5; have hfz31_6 := blk_frozen BK179.out 6; have hfz31_7 := blk_frozen BK179.out 7; obtain ⟨Ao32, co32, eo32⟩ := Kd.R_slice HO_11.out; subst eo32) | ((with_reducible refine gate_callee (f := 20) rfl ?_); refine goesL_ (some 53) rfl rfl Try.func20 (by kernel_rfl) rfl #[.slice Ao32 t172.length co32, .int .i64 ((rd_T65 t175 x36_1).f2)] rfl (by (try simp only [List.map_toArray, List.map_cons, List.map_nil]); first | done | rfl | (simp only [List.length_drop, List.length_take]; rfl)) ?_; (with_reducible refine (early_At.calls k1 _ _ t172 ((rd_T65 t175 x36_1).f2) t183 true _ ?side1 ?side2 A19.out).mono ?_); (case side1 => repeat (first | exact (Kd.R_reads' HO_11.out).2.2 | (with_reducible refine Kd.C_alloc ?_ _) | (with_reducible refine Kd.C_drewN ?_ _) | (with_reducible refine Kd.C_drew ?_))); (case side2 => exact (Kd.R_reads' HO_11.out).2.1); rintro e w33 ⟨rfl, hb⟩; refine ⟨_, rfl, ?_⟩; have n0_ := Aside0.mk (Kd.R_below (by (with_reducible repeat (first | apply Kd.R_alloc | apply Kd.R_drewN | apply Kd.R_drew)); exact HO_11.out) hb); have n1_ := Aside0.mk (Kd.R_below (by (with_reducible repeat (first | apply Kd.R_alloc | apply Kd.R_drewN | apply Kd.R_drew)); exact HO_34.out) hb); have n2_ := Aside0.mk (blk_below (g := gb170) (o := .cells #[.slice A0_0 l0_0.length c0_0, .int .i64 a0_1, .int .i64 a0_2, .int .i64 a0_3, .slice A0_4 l0_4.length c0_4] 58 (0, 0)) (by (with_reducible repeat (first | refine blk_drewN ?_ _ | refine blk_drew ?_ | refine blk_alloc ?_ _)); exact BK170.out) hb); have n3_ := Aside0.mk (blk_below (g := gb171) (o := .cells #[.int .i64 x172000_1, .int .i64 x172001_1, .int .i64 x172002_1] 56 (0, 0)) (by (with_reducible repeat (first | refine blk_drewN ?_ _ | refine blk_drew ?_ | refine blk_alloc ?_ _)); exact BK171.out) hb); have n4_ := Aside0.mk (blk_below (g := gb179) (o := .cells #[.int .i64 ((rd_T65 t175 x36_1).f0), .int .i64 ((rd_T65 t175 x36_1).f1), .int .i64 ((rd_T65 t175 x36_1).f2), .int .i64 ((rd_T65 t175 x36_1).f3), .int .i64 ((rd_T65 t175 x36_1).f4), .int .i64 ((rd_T65 t175 x36_1).f5), .int .i64 ((rd_T65 t175 x36_1).f6), .int .i64 ((rd_T65 t175 x36_1).f7)] 65 (0, 0)) (by (with_reducible repeat (first | refine blk_drewN ?_ _ | refine blk_drew ?_ | refine blk_alloc ?_ _)); exact BK179.out) hb); have n5_ := Aside0.mk (below_step (by repeat (first | (with_reducible first | exact HB.out | apply below_alloc | apply pw_below_drewN | apply below_drew1 | refine below_set ?_ GE170.out | refine below_set ?_ GE171.out | refine below_set ?_ GE179.out) | exact HB.out)) hb); clear HO_11; clear HO_34; clear BK170; clear BK171; clear BK179; clear HB; have HO_11 := n0_; have HO_34 := n1_; have BK170 := n2_; have BK171 := n3_; have BK179 := n4_; have HB := n5_; clear n0_ n1_ n2_ n3_ n4_ n5_; (try clear hb); (try clear hb2); (try clear hk); (try clear hi); have hcz34_0 : w33.cell? ⟨gb179, 0, none⟩ = some (.int .i64 ((rd_T65 t175 x36_1).f0)) := (blk_cell BK179.out 0).trans rfl; have hcz34_1 : w33.cell? ⟨gb179, 1, none⟩ = some (.int .i64 ((rd_T65 t175 x36_1).f1)) := (blk_cell BK179.out 1).trans rfl; have hcz34_2 : w33.cell? ⟨gb179, 2, none⟩ = some (.int .i64 ((rd_T65 t175 x36_1).f2)) := (blk_cell BK179.out 2).trans rfl; have hcz34_3 : w33.cell? ⟨gb179, 3, none⟩ = some (.int .i64 ((rd_T65 t175 x36_1).f3)) := (blk_cell BK179.out 3).trans rfl; have hcz34_4 : w33.cell? ⟨gb179, 4, none⟩ = some (.int .i64 ((rd_T65 t175 x36_1).f4)) := (blk_cell BK179.out 4).trans rfl; have hcz34_5 : w33.cell? ⟨gb179, 5, none⟩ = some (.int .i64 ((rd_T65 t175 x36_1).f5)) := (blk_cell BK179.out 5).trans rfl; have hcz34_6 : w33.cell? ⟨gb179, 6, none⟩ = some (.int .i64 ((rd_T65 t175 x36_1).f6)) := (blk_cell BK179.out 6).trans rfl; have hcz34_7 : w33.cell? ⟨gb179, 7, none⟩ = some (.int .i64 ((rd_T65 t175 x36_1).f7)) := (blk_cell BK179.out 7).trans rfl; have hfz34_0 := blk_frozen BK179.out 0; have hfz34_1 := blk_frozen BK179.out 1; have hfz34_2 := blk_frozen BK179.out 2; have hfz34_3 := blk_frozen BK179.out 3; have hfz34_4 := blk_frozen BK179.out 4; have hfz34_5 := blk_frozen BK179.out 5; have hfz34_6 := blk_frozen BK179.out 6; have hfz34_7 := blk_frozen BK179.out 7; have hcz35_0 : w33.cell? ⟨gb170, 0, none⟩ = some (.slice A0_0 l0_0.length c0_0) := (blk_cell BK170.out 0).trans rfl; have hcz35_1 : w33.cell? ⟨gb170, 1, none⟩ = some (.int .i64 a0_1) := (blk_cell BK170.out 1).trans rfl; have hcz35_2 : w33.cell? ⟨gb170, 2, none⟩ = some (.int .i64 a0_2) := (blk_cell BK170.out 2).trans rfl; have hcz35_3 : w33.cell? ⟨gb170, 3, none⟩ = some (.int .i64 a0_3) := (blk_cell BK170.out 3).trans rfl; have hcz35_4 : w33.cell? ⟨gb170, 4, none⟩ = some (.slice A0_4 l0_4.length c0_4) := (blk_cell BK170.out 4).trans rfl; have hfz35_0 := blk_frozen BK170.out 0; have hfz35_1 := blk_frozen BK170.out 1; have hfz35_2 := blk_frozen BK170.out 2; have hfz35_3 := blk_frozen BK170.out 3; have hfz35_4 := blk_frozen BK170.out 4))
                    have n0_ := Aside0.mk (Kd.R_drew HO_11.out)
                    have n1_ := Aside0.mk (Kd.R_drew HO_34.out)
                    have n2_ := Aside0.mk (blk_drew BK170.out)
                    have n3_ := Aside0.mk (blk_drew BK171.out)
                    have n4_ := Aside0.mk (blk_drew BK179.out)
                    have n5_ := Aside0.mk (below_drew1 HB.out)
                    clear HO_11
                    clear HO_34
                    clear BK170
                    clear BK171
                    clear BK179
                    clear HB
                    have HO_11 := n0_
                    have HO_34 := n1_
                    have BK170 := n2_
                    have BK171 := n3_
                    have BK179 := n4_
                    have HB := n5_
                    clear n0_ n1_ n2_ n3_ n4_ n5_
                    refine start_ (n := 10) (S := fun w' => w'.cell? ⟨gb179, 0, none⟩ = some (.int .i64 ((rd_T65 t175 x36_1).f0)) ∧ w'.cell? ⟨gb179, 1, none⟩ = some (.int .i64 ((rd_T65 t175 x36_1).f1)) ∧ w'.cell? ⟨gb179, 2, none⟩ = some (.int .i64 ((rd_T65 t175 x36_1).f2)) ∧ w'.cell? ⟨gb179, 3, none⟩ = some (.int .i64 ((rd_T65 t175 x36_1).f3)) ∧ w'.cell? ⟨gb179, 4, none⟩ = some (.int .i64 ((rd_T65 t175 x36_1).f4)) ∧ w'.cell? ⟨gb179, 5, none⟩ = some (.int .i64 ((rd_T65 t175 x36_1).f5)) ∧ w'.cell? ⟨gb179, 6, none⟩ = some (.int .i64 ((rd_T65 t175 x36_1).f6)) ∧ w'.cell? ⟨gb179, 7, none⟩ = some (.int .i64 ((rd_T65 t175 x36_1).f7))) (ds := []) #[false, false, false, false, false, false, false, false, false, false] (by kernel_rfl) rfl rfl ⟨(blk_cell BK179.out 0).trans rfl, (blk_cell BK179.out 1).trans rfl, (blk_cell BK179.out 2).trans rfl, (blk_cell BK179.out 3).trans rfl, (blk_cell BK179.out 4).trans rfl, (blk_cell BK179.out 5).trans rfl, (blk_cell BK179.out 6).trans rfl, (blk_cell BK179.out 7).trans rfl⟩ (fun hHeld => ?_); refine with_tabW least_search_next.tab8 least_search_next.bits8 (fun HT_ HW_ => ?_)
                    generalize w33.drew = w36 at HO_11 HO_34 BK170 BK171 BK179 HB hHeld ⊢
                    refine pure_ (i := 0) (N := some 80) (v := ?_) (a' := ?_) #[true, false, false, false, false, false, false, false, false, false] rfl rfl (any_of HT_.out (by kernel_rfl)) (fun _ _ _ h => h) (Or.inl ⟨by rfl, ?_⟩) ?_ ?_
                    rotate_left
                    · intro w'
                      go_simp
                      with_reducible rfl
                    rotate_left
                    · simp only [Act.put, List.setIfInBounds_toArray, List.set_cons_zero, List.set_cons_succ, i64_w, i32_w]
                      rfl
                    refine pure_ (i := 2) (N := some 82) (v := ?_) (a' := ?_) #[true, false, true, false, false, false, false, false, false, false] rfl rfl (any_of HT_.out (by kernel_rfl)) (fun _ _ _ h => h) (Or.inl ⟨by rfl, ?_⟩) ?_ ?_
                    rotate_left
                    · intro w'
                      go_simp
                      with_reducible rfl
                    rotate_left
                    · simp only [Act.put, List.setIfInBounds_toArray, List.set_cons_zero, List.set_cons_succ, i64_w, i32_w]
                      rfl
                    refine pure_ (i := 3) (N := some 83) (v := ?_) (a' := ?_) #[true, false, true, true, false, false, false, false, false, false] rfl rfl (any_of HT_.out (by kernel_rfl)) (fun _ _ _ h => h) (Or.inl ⟨by rfl, ?_⟩) ?_ ?_
                    rotate_left
                    · intro w'
                      go_simp
                      with_reducible rfl
                    rotate_left
                    · simp only [Act.put, List.setIfInBounds_toArray, List.set_cons_zero, List.set_cons_succ, i64_w, i32_w]
                      rfl
                    refine pure_ (i := 5) (N := some 85) (v := ?_) (a' := ?_) #[true, false, true, true, false, true, false, false, false, false] rfl rfl (any_of HT_.out (by kernel_rfl)) (fun _ _ _ h => h) (Or.inl ⟨by rfl, ?_⟩) ?_ ?_
                    rotate_left
                    · intro w'
                      go_simp
                      with_reducible rfl
                    rotate_left
                    · simp only [Act.put, List.setIfInBounds_toArray, List.set_cons_zero, List.set_cons_succ, i64_w, i32_w]
                      rfl
                    refine take_ (i := 1) (N := some 81) (v := ?_) (a' := ?_) #[true, true, true, true, false, true, false, false, false, false] rfl rfl (take_ofW HT_.out HW_.out (by kernel_rfl)) (fun _ _ _ h => h) (Or.inl ⟨by rfl, ?_⟩) hHeld ?_ ?_
                    rotate_left
                    · rintro w' ⟨s0, s1, s2, s3, s4, s5, s6, s7⟩
                      go_simp
                      with_reducible rfl
                    rotate_left
                    · simp only [Act.put, List.setIfInBounds_toArray, List.set_cons_zero, List.set_cons_succ, i64_w, i32_w]
                      rfl
                    refine pure_ (i := 4) (N := some 84) (v := ?_) (a' := ?_) #[true, true, true, true, true, true, false, false, false, false] rfl rfl (any_of HT_.out (by kernel_rfl)) (fun _ _ _ h => h) (Or.inl ⟨by rfl, ?_⟩) ?_ ?_
                    rotate_left
                    · intro w'
                      go_simp
                      with_reducible rfl
                    rotate_left
                    · simp only [Act.put, List.setIfInBounds_toArray, List.set_cons_zero, List.set_cons_succ, i64_w, i32_w]
                      rfl
                    refine take_ (i := 6) (N := some 86) (v := ?_) (a' := ?_) #[true, true, true, true, true, true, true, false, false, false] rfl rfl (take_ofW HT_.out HW_.out (by kernel_rfl)) (fun _ _ _ h => h) (Or.inl ⟨by rfl, ?_⟩) hHeld ?_ ?_
                    rotate_left
                    · rintro w' ⟨s0, s1, s2, s3, s4, s5, s6, s7⟩
                      go_simp
                      with_reducible rfl
                    rotate_left
                    · simp only [Act.put, List.setIfInBounds_toArray, List.set_cons_zero, List.set_cons_succ, i64_w, i32_w]
                      rfl
                    refine one_ (i := 7) (N := none) #[true, true, true, true, true, true, true, true, false, false] rfl rfl (one_of HT_.out (by kernel_rfl)) (by decide) (fun K hK => ?_)
                    have hs37 : w36.cell? ⟨gb171, 0, none⟩ = some (.int .i64 x172000_1) := (blk_cell BK171.out 0).trans rfl
                    have hfs37 := blk_frozen BK171.out 0
                    have hns37_0 := NB170_171.out
                    have hns37_2 := NB179_171.out
                    have hms37_0 := NB171_170.out
                    have hms37_2 := NB171_179.out
                    have hs38 : w36.cell? ⟨gb171, 1, none⟩ = some (.int .i64 x172001_1) := (blk_cell BK171.out 1).trans rfl
                    have hfs38 := blk_frozen BK171.out 1
                    have hns38_0 := NB170_171.out
                    have hns38_2 := NB179_171.out
                    have hms38_0 := NB171_170.out
                    have hms38_2 := NB171_179.out
                    have hs39 : w36.cell? ⟨gb171, 2, none⟩ = some (.int .i64 x172002_1) := (blk_cell BK171.out 2).trans rfl
                    have hfs39 := blk_frozen BK171.out 2
                    have hns39_0 := NB170_171.out
                    have hns39_2 := NB179_171.out
                    have hms39_0 := NB171_170.out
                    have hms39_2 := NB171_179.out
                    refine skip_ (w1 := ?_) (by rfl) rfl ?_ ?_
                    rotate_left
                    · go_simp
                      rfl
                    refine hK.out _ _ ⟨((cell_far (p := ⟨gb171, _, none⟩) NB179_171.out _).trans (((cell_far (p := ⟨gb171, _, none⟩) NB179_171.out _).trans (((cell_far (p := ⟨gb171, _, none⟩) NB179_171.out _).trans (hHeld.1)))))), ((cell_far (p := ⟨gb171, _, none⟩) NB179_171.out _).trans (((cell_far (p := ⟨gb171, _, none⟩) NB179_171.out _).trans (((cell_far (p := ⟨gb171, _, none⟩) NB179_171.out _).trans (hHeld.2.1)))))), ((cell_far (p := ⟨gb171, _, none⟩) NB179_171.out _).trans (((cell_far (p := ⟨gb171, _, none⟩) NB179_171.out _).trans (((cell_far (p := ⟨gb171, _, none⟩) NB179_171.out _).trans (hHeld.2.2.1)))))), ((cell_far (p := ⟨gb171, _, none⟩) NB179_171.out _).trans (((cell_far (p := ⟨gb171, _, none⟩) NB179_171.out _).trans (((cell_far (p := ⟨gb171, _, none⟩) NB179_171.out _).trans (hHeld.2.2.2.1)))))), ((cell_far (p := ⟨gb171, _, none⟩) NB179_171.out _).trans (((cell_far (p := ⟨gb171, _, none⟩) NB179_171.out _).trans (((cell_far (p := ⟨gb171, _, none⟩) NB179_171.out _).trans (hHeld.2.2.2.2.1)))))), ((cell_far (p := ⟨gb171, _, none⟩) NB179_171.out _).trans (((cell_far (p := ⟨gb171, _, none⟩) NB179_171.out _).trans (((cell_far (p := ⟨gb171, _, none⟩) NB179_171.out _).trans (hHeld.2.2.2.2.2.1)))))), ((cell_far (p := ⟨gb171, _, none⟩) NB179_171.out _).trans (((cell_far (p := ⟨gb171, _, none⟩) NB179_171.out _).trans (((cell_far (p := ⟨gb171, _, none⟩) NB179_171.out _).trans (hHeld.2.2.2.2.2.2.1)))))), ((cell_far (p := ⟨gb171, _, none⟩) NB179_171.out _).trans (((cell_far (p := ⟨gb171, _, none⟩) NB179_171.out _).trans (((cell_far (p := ⟨gb171, _, none⟩) NB179_171.out _).trans (hHeld.2.2.2.2.2.2.2))))))⟩ (fun hHeld => ?_)
                    clear hK K
                    refine pure_ (i := 8) (N := some 9) (v := ?_) (a' := ?_) #[true, true, true, true, true, true, true, true, true, false] rfl rfl (any_of HT_.out (by kernel_rfl)) (fun _ _ _ h => h) (Or.inl ⟨by rfl, ?_⟩) ?_ ?_
                    rotate_left
                    · intro w'
                      go_simp
                      with_reducible rfl
                    rotate_left
                    · simp only [Act.put, List.setIfInBounds_toArray, List.set_cons_zero, List.set_cons_succ, i64_w, i32_w]
                      rfl
                    refine pure_ (i := 9) (N := some 10) (v := ?_) (a' := ?_) #[true, true, true, true, true, true, true, true, true, true] rfl rfl (any_of HT_.out (by kernel_rfl)) (fun _ _ _ h => h) (Or.inl ⟨by rfl, ?_⟩) ?_ ?_
                    rotate_left
                    · intro w'
                      go_simp
                      with_reducible rfl
                    rotate_left
                    · simp only [Act.put, List.setIfInBounds_toArray, List.set_cons_zero, List.set_cons_succ, i64_w, i32_w]
                      rfl
                    refine done_ (done_of HT_.out (by kernel_rfl)) ?_
                    try go_wp2
                    refine bodyPost_ret (results_ctt rfl _ _ gb171 56 #[.int .i64 ((rd_T65 t175 x36_1).f0), .int .i64 t180, .int .i64 t181] (0, 0) _ rfl (by (with_reducible repeat (first | refine blk_drewN ?_ _ | refine blk_drew ?_ | refine blk_alloc ?_ _)); refine blk_put (cs := #[.int .i64 ((rd_T65 t175 x36_1).f0), .int .i64 t180, .int .i64 x172002_1]) ?_ 2 _ rfl; (with_reducible repeat (first | refine blk_drewN ?_ _ | refine blk_drew ?_ | refine blk_alloc ?_ _)); refine blk_put (cs := #[.int .i64 ((rd_T65 t175 x36_1).f0), .int .i64 x172001_1, .int .i64 x172002_1]) ?_ 1 _ rfl; (with_reducible repeat (first | refine blk_drewN ?_ _ | refine blk_drew ?_ | refine blk_alloc ?_ _)); refine blk_put (cs := #[.int .i64 x172000_1, .int .i64 x172001_1, .int .i64 x172002_1]) ?_ 0 _ rfl; (with_reducible repeat (first | refine blk_drewN ?_ _ | refine blk_drew ?_ | refine blk_alloc ?_ _)); exact BK171.out) Try.underlying56 rfl (by kernel_rfl)) rfl ?_
                    exact ⟨by first | rfl | (simp [errW_none, errW_some] <;> rfl) | (simp [*, errW_none, errW_some] <;> rfl), by repeat (first | (with_reducible first | exact HB.out | apply below_alloc | apply pw_below_drewN | apply below_drew1 | refine below_set ?_ GE170.out | refine below_set ?_ GE171.out | refine below_set ?_ GE179.out) | exact HB.out)⟩
                  · rw [if_neg c23] at H
                    have c23b0 : (((rd_T65 t175 x36_1).f2) == a0_1) = false := beq_eq_false_iff_ne.mpr c23
                    have c23b1 : (((rd_T65 t175 x36_1).f2) != a0_1) = true := bne_iff_ne.mpr c23
                    replace H := Option.bind_eq_some_iff.mp H
                    obtain ⟨t185, A400, H⟩ := H
                    replace H : (if t185 = true then (least_search_next.l0 k1 a2 t172 t175 (t175.length : Int) (wrap64 (x36_1 + 1)) l0_0 a0_1 a0_2 a0_3 l0_4) else (some ((rd_T65 t175 x36_1).f0, t180, t181, (rd_T65 t175 x36_1).f2, true))) = some (r1, r2, r3, r4, r5) := H
                    have A40 := Aside0.mk A400
                    clear A400
                    by_cases c41 : t185 = true
                    · subst c41
                      have H1 : (least_search_next.l0 k1 a2 t172 t175 (t175.length : Int) (wrap64 (x36_1 + 1)) l0_0 a0_1 a0_2 a0_3 l0_4) = some (r1, r2, r3, r4, r5) := by rw [if_pos rfl] at H; exact H
                      clear H
                      have H := H1
                      clear H1
                      have H' := Aside0.mk H
                      clear H
                      have p178 : 0 ≤ (x36_1 : Int) := of_decide_eq_true (by first | (with_reducible assumption) | assumption)
                      have q178 : x36_1 < (t175.length : Int) := of_decide_eq_true (by first | (with_reducible assumption) | assumption)
                      obtain ⟨ad178, e178, hx178_0, hx178_1, hx178_2, hx178_3, hx178_4, hx178_5, hx178_6, hx178_7⟩ := at_T65 (Kd.R_reads' HO_34.out).2.2 x36_1 p178 q178
                      cases e178
                      replace p178 := eq_true p178
                      replace q178 := eq_true q178
                      go_wp2_with (first | ((with_reducible refine gate_dst (N := 13) rfl ?_); refine box_event ?hg (N := 13) ?hd (cs := #[.int .i64 0, .int .i64 0, .int .i64 0, .int .i64 0, .int .i64 0, .int .i64 0, .int .i64 0, .int .i64 0]) (t := 65) ?hr ?_; (case hd => rfl); (case hg => rfl); (case hr => first | (go_simp; done) | (go_simp; rfl)); intro gb179 hg w42 hbox hb; have n0_ := Aside0.mk (Kd.R_below (by (with_reducible repeat (first | apply Kd.R_alloc | apply Kd.R_drewN | apply Kd.R_drew)); exact HO_11.out) hb); have n1_ := Aside0.mk (Kd.R_below (Kd.R_elderB (by (with_reducible repeat (first | apply Kd.R_alloc | apply Kd.R_drewN | apply Kd.R_drew)); exact HO_34.out) gb179 (Nat.le_of_eq hg.symm)) hb); have n2_ := Aside0.mk (blk_below (g := gb170) (o := .cells #[.slice A0_0 l0_0.length c0_0, .int .i64 a0_1, .int .i64 a0_2, .int .i64 a0_3, .slice A0_4 l0_4.length c0_4] 58 (0, 0)) (by (with_reducible repeat (first | refine blk_drewN ?_ _ | refine blk_drew ?_ | refine blk_alloc ?_ _)); exact BK170.out) hb); have n3_ := Aside0.mk (blk_below (g := gb171) (o := .cells #[.int .i64 x172000_1, .int .i64 x172001_1, .int .i64 x172002_1] 56 (0, 0)) (by (with_reducible repeat (first | refine blk_drewN ?_ _ | refine blk_drew ?_ | refine blk_alloc ?_ _)); exact BK171.out) hb); have n4_ := Aside0.mk (below_step (by repeat (first | (with_reducible first | exact HB.out | apply below_alloc | apply pw_below_drewN | apply below_drew1 | refine below_set ?_ GE170.out | refine below_set ?_ GE171.out) | exact HB.out)) hb); have n5_ := Aside0.mk (hbox); have n6_ := Aside0.mk ((by rw [hg]; exact (below_size (by repeat (first | (with_reducible first | exact HB.out | apply below_alloc | apply pw_below_drewN | apply below_drew1 | refine below_set ?_ GE170.out | refine below_set ?_ GE171.out) | exact HB.out))) : w.heap.size ≤ gb179)); have n7_ := Aside0.mk ((by rw [hg]; exact (below_size (by repeat (first | (with_reducible first | exact HB.out | apply below_alloc | apply pw_below_drewN | apply below_drew1 | refine below_set ?_ GE170.out | refine below_set ?_ GE171.out) | exact HB.out))) : w.heap.size ≤ gb179)); have n8_ := Aside0.mk ((by rw [hg]; exact Nat.ne_of_lt (blk_lt (g := gb170) (o := .cells #[.slice A0_0 l0_0.length c0_0, .int .i64 a0_1, .int .i64 a0_2, .int .i64 a0_3, .slice A0_4 l0_4.length c0_4] 58 (0, 0)) (by (with_reducible repeat (first | refine blk_drewN ?_ _ | refine blk_drew ?_ | refine blk_alloc ?_ _)); exact BK170.out)) : gb170 ≠ gb179)); have n9_ := Aside0.mk ((by rw [hg]; exact Nat.ne_of_gt (blk_lt (g := gb170) (o := .cells #[.slice A0_0 l0_0.length c0_0, .int .i64 a0_1, .int .i64 a0_2, .int .i64 a0_3, .slice A0_4 l0_4.length c0_4] 58 (0, 0)) (by (with_reducible repeat (first | refine blk_drewN ?_ _ | refine blk_drew ?_ | refine blk_alloc ?_ _)); exact BK170.out)) : gb179 ≠ gb170)); have n10_ := Aside0.mk ((by rw [hg]; exact Nat.ne_of_lt (blk_lt (g := gb171) (o := .cells #[.int .i64 x172000_1, .int .i64 x172001_1, .int .i64 x172002_1] 56 (0, 0)) (by (with_reducible repeat (first | refine blk_drewN ?_ _ | refine blk_drew ?_ | refine blk_alloc ?_ _)); exact BK171.out)) : gb171 ≠ gb179)); have n11_ := Aside0.mk ((by rw [hg]; exact Nat.ne_of_gt (blk_lt (g := gb171) (o := .cells #[.int .i64 x172000_1, .int .i64 x172001_1, .int .i64 x172002_1] 56 (0, 0)) (by (with_reducible repeat (first | refine blk_drewN ?_ _ | refine blk_drew ?_ | refine blk_alloc ?_ _)); exact BK171.out)) : gb179 ≠ gb171)); clear HO_11; clear HO_34; clear BK170; clear BK171; clear HB; have HO_11 := n0_; have HO_34 := n1_; have BK170 := n2_; have BK171 := n3_; have HB := n4_; have BK179 := n5_; have GW179 := n6_; have GE179 := n7_; have NB170_179 := n8_; have NB179_170 := n9_; have NB171_179 := n10_; have NB179_171 := n11_; clear n0_ n1_ n2_ n3_ n4_ n5_ n6_ n7_ n8_ n9_ n10_ n11_; clear hb hbox hg; have hnb43 := NB179_170.out; have hnc43 := NB170_179.out; have hnb44 := NB179_171.out; have hnc44 := NB171_179.out; have hcz45_0 : w42.cell? ⟨gb179, 0, none⟩ = some (.int .i64 0) := (blk_cell BK179.out 0).trans rfl; have hcz45_1 : w42.cell? ⟨gb179, 1, none⟩ = some (.int .i64 0) := (blk_cell BK179.out 1).trans rfl; have hcz45_2 : w42.cell? ⟨gb179, 2, none⟩ = some (.int .i64 0) := (blk_cell BK179.out 2).trans rfl; have hcz45_3 : w42.cell? ⟨gb179, 3, none⟩ = some (.int .i64 0) := (blk_cell BK179.out 3).trans rfl; have hcz45_4 : w42.cell? ⟨gb179, 4, none⟩ = some (.int .i64 0) := (blk_cell BK179.out 4).trans rfl; have hcz45_5 : w42.cell? ⟨gb179, 5, none⟩ = some (.int .i64 0) := (blk_cell BK179.out 5).trans rfl; have hcz45_6 : w42.cell? ⟨gb179, 6, none⟩ = some (.int .i64 0) := (blk_cell BK179.out 6).trans rfl; have hcz45_7 : w42.cell? ⟨gb179, 7, none⟩ = some (.int .i64 0) := (blk_cell BK179.out 7).trans rfl; have hfz45_0 := blk_frozen BK179.out 0; have hfz45_1 := blk_frozen BK179.out 1; have hfz45_2 := blk_frozen BK179.out 2; have hfz45_3 := blk_frozen BK179.out 3; have hfz45_4 := blk_frozen BK179.out 4; have hfz45_5 := blk_frozen BK179.out 5; have hfz45_6 := blk_frozen BK179.out 6; have hfz45_7 := blk_frozen BK179.out 7; have hnb46 := NB170_171.out; have hnc46 := NB171_170.out; have hcz47_0 : w42.cell? ⟨gb170, 0, none⟩ = some (.slice A0_0 l0_0.length c0_0) := (blk_cell BK170.out 0).trans rfl; have hcz47_1 : w42.cell? ⟨gb170, 1, none⟩ = some (.int .i64 a0_1) := (blk_cell BK170.out 1).trans rfl; have hcz47_2 : w42.cell? ⟨gb170, 2, none⟩ = some (.int .i64 a0_2) := (blk_cell BK170.out 2).trans rfl; have hcz47_3 : w42.cell? ⟨gb170, 3, none⟩ = some (.int .i64 a0_3) := (blk_cell BK170.out 3).trans rfl; have hcz47_4 : w42.cell? ⟨gb170, 4, none⟩ = some (.slice A0_4 l0_4.length c0_4) := (blk_cell BK170.out 4).trans rfl; have hfz47_0 := blk_frozen BK170.out 0; have hfz47_1 := blk_frozen BK170.out 1; have hfz47_2 := blk_frozen BK170.out 2; have hfz47_3 := blk_frozen BK170.out 3; have hfz47_4 := blk_frozen BK170.out 4) | ((with_reducible refine gate_callee (f := 46) rfl ?_); refine goesL_ (some 45) rfl rfl Try.func46 (by kernel_rfl) rfl #[.agg #[.int .i64 ((rd_T65 t175 x36_1).f0), .int .i64 ((rd_T65 t175 x36_1).f1), .int .i64 ((rd_T65 t175 x36_1).f2), .int .i64 ((rd_T65 t175 x36_1).f3), .int .i64 ((rd_T65 t175 x36_1).f4), .int .i64 ((rd_T65 t175 x36_1).f5), .int .i64 ((rd_T65 t175 x36_1).f6), .int .i64 ((rd_T65 t175 x36_1).f7)], .int .i64 a2, .int .i64 a0_2] rfl (by (try simp only [List.map_toArray, List.map_cons, List.map_nil]); first | done | rfl | (simp only [List.length_drop, List.length_take]; rfl)) ?_; (with_reducible refine (hop_Pass.calls k1 ((rd_T65 t175 x36_1).f0) ((rd_T65 t175 x36_1).f1) ((rd_T65 t175 x36_1).f2) ((rd_T65 t175 x36_1).f3) ((rd_T65 t175 x36_1).f4) ((rd_T65 t175 x36_1).f5) ((rd_T65 t175 x36_1).f6) ((rd_T65 t175 x36_1).f7) a2 a0_2 t180 t181 true _ A18.out).mono ?_); rintro e w48 ⟨rfl, hb⟩; refine ⟨_, rfl, ?_⟩; have n0_ := Aside0.mk (Kd.R_below (by (with_reducible repeat (first | apply Kd.R_alloc | apply Kd.R_drewN | apply Kd.R_drew)); exact (Kd.R_mono (Kd.R_far (p := ⟨gb179, 7, none⟩) (Kd.R_far (p := ⟨gb179, 6, none⟩) (Kd.R_far (p := ⟨gb179, 5, none⟩) (Kd.R_far (p := ⟨gb179, 4, none⟩) (Kd.R_far (p := ⟨gb179, 3, none⟩) (Kd.R_far (p := ⟨gb179, 2, none⟩) (Kd.R_far (p := ⟨gb179, 1, none⟩) (Kd.R_far (p := ⟨gb179, 0, none⟩) (Kd.R_types HO_11.out BK179.out (by decide)) (fun _ hk => hk.2) (.int .i64 ((rd_T65 t175 x36_1).f0))) (fun _ hk => hk.2) (.int .i64 ((rd_T65 t175 x36_1).f1))) (fun _ hk => hk.2) (.int .i64 ((rd_T65 t175 x36_1).f2))) (fun _ hk => hk.2) (.int .i64 ((rd_T65 t175 x36_1).f3))) (fun _ hk => hk.2) (.int .i64 ((rd_T65 t175 x36_1).f4))) (fun _ hk => hk.2) (.int .i64 ((rd_T65 t175 x36_1).f5))) (fun _ hk => hk.2) (.int .i64 ((rd_T65 t175 x36_1).f6))) (fun _ hk => hk.2) (.int .i64 ((rd_T65 t175 x36_1).f7))) (fun _ h_ => h_.1))) hb); have n1_ := Aside0.mk (Kd.R_below (by (with_reducible repeat (first | apply Kd.R_alloc | apply Kd.R_drewN | apply Kd.R_drew)); exact (Kd.R_mono (Kd.R_far (p := ⟨gb179, 7, none⟩) (Kd.R_far (p := ⟨gb179, 6, none⟩) (Kd.R_far (p := ⟨gb179, 5, none⟩) (Kd.R_far (p := ⟨gb179, 4, none⟩) (Kd.R_far (p := ⟨gb179, 3, none⟩) (Kd.R_far (p := ⟨gb179, 2, none⟩) (Kd.R_far (p := ⟨gb179, 1, none⟩) (Kd.R_far (p := ⟨gb179, 0, none⟩) (Kd.R_mono HO_34.out (fun k_ hk => (⟨hk, hk.2⟩ : _ ∧ k_ ≠ gb179))) (fun _ hk => hk.2) (.int .i64 ((rd_T65 t175 x36_1).f0))) (fun _ hk => hk.2) (.int .i64 ((rd_T65 t175 x36_1).f1))) (fun _ hk => hk.2) (.int .i64 ((rd_T65 t175 x36_1).f2))) (fun _ hk => hk.2) (.int .i64 ((rd_T65 t175 x36_1).f3))) (fun _ hk => hk.2) (.int .i64 ((rd_T65 t175 x36_1).f4))) (fun _ hk => hk.2) (.int .i64 ((rd_T65 t175 x36_1).f5))) (fun _ hk => hk.2) (.int .i64 ((rd_T65 t175 x36_1).f6))) (fun _ hk => hk.2) (.int .i64 ((rd_T65 t175 x36_1).f7))) (fun _ h_ => h_.1))) hb); have n2_ := Aside0.mk (blk_below (g := gb170) (o := .cells #[.slice A0_0 l0_0.length c0_0, .int .i64 a0_1, .int .i64 a0_2, .int .i64 a0_3, .slice A0_4 l0_4.length c0_4] 58 (0, 0)) (by (with_reducible repeat (first | refine blk_drewN ?_ _ | refine blk_drew ?_ | refine blk_alloc ?_ _)); refine blk_far ?_ NB170_179.out _; (with_reducible repeat (first | refine blk_drewN ?_ _ | refine blk_drew ?_ | refine blk_alloc ?_ _)); refine blk_far ?_ NB170_179.out _; (with_reducible repeat (first | refine blk_drewN ?_ _ | refine blk_drew ?_ | refine blk_alloc ?_ _)); refine blk_far ?_ NB170_179.out _; (with_reducible repeat (first | refine blk_drewN ?_ _ | refine blk_drew ?_ | refine blk_alloc ?_ _)); refine blk_far ?_ NB170_179.out _; (with_reducible repeat (first | refine blk_drewN ?_ _ | refine blk_drew ?_ | refine blk_alloc ?_ _)); refine blk_far ?_ NB170_179.out _; (with_reducible repeat (first | refine blk_drewN ?_ _ | refine blk_drew ?_ | refine blk_alloc ?_ _)); refine blk_far ?_ NB170_179.out _; (with_reducible repeat (first | refine blk_drewN ?_ _ | refine blk_drew ?_ | refine blk_alloc ?_ _)); refine blk_far ?_ NB170_179.out _; (with_reducible repeat (first | refine blk_drewN ?_ _ | refine blk_drew ?_ | refine blk_alloc ?_ _)); refine blk_far ?_ NB170_179.out _; (with_reducible repeat (first | refine blk_drewN ?_ _ | refine blk_drew ?_ | refine blk_alloc ?_ _)); exact BK170.out) hb); have n3_ := Aside0.mk (blk_below (g := gb171) (o := .cells #[.int .i64 x172000_1, .int .i64 x172001_1, .int .i64 x172002_1] 56 (0, 0)) (by (with_reducible repeat (first | refine blk_drewN ?_ _ | refine blk_drew ?_ | refine blk_alloc ?_ _)); refine blk_far ?_ NB171_179.out _; (with_reducible repeat (first | refine blk_drewN ?_ _ | refine blk_drew ?_ | refine blk_alloc ?_ _)); refine blk_far ?_ NB171_179.out _; (with_reducible repeat (first | refine blk_drewN ?_ _ | refine blk_drew ?_ | refine blk_alloc ?_ _)); refine blk_far ?_ NB171_179.out _; (with_reducible repeat (first | refine blk_drewN ?_ _ | refine blk_drew ?_ | refine blk_alloc ?_ _)); refine blk_far ?_ NB171_179.out _; (with_reducible repeat (first | refine blk_drewN ?_ _ | refine blk_drew ?_ | refine blk_alloc ?_ _)); refine blk_far ?_ NB171_179.out _; (with_reducible repeat (first | refine blk_drewN ?_ _ | refine blk_drew ?_ | refine blk_alloc ?_ _)); refine blk_far ?_ NB171_179.out _; (with_reducible repeat (first | refine blk_drewN ?_ _ | refine blk_drew ?_ | refine blk_alloc ?_ _)); refine blk_far ?_ NB171_179.out _; (with_reducible repeat (first | refine blk_drewN ?_ _ | refine blk_drew ?_ | refine blk_alloc ?_ _)); refine blk_far ?_ NB171_179.out _; (with_reducible repeat (first | refine blk_drewN ?_ _ | refine blk_drew ?_ | refine blk_alloc ?_ _)); exact BK171.out) hb); have n4_ := Aside0.mk (blk_below (g := gb179) (o := .cells #[.int .i64 ((rd_T65 t175 x36_1).f0), .int .i64 ((rd_T65 t175 x36_1).f1), .int .i64 ((rd_T65 t175 x36_1).f2), .int .i64 ((rd_T65 t175 x36_1).f3), .int .i64 ((rd_T65 t175 x36_1).f4), .int .i64 ((rd_T65 t175 x36_1).f5), .int .i64 ((rd_T65 t175 x36_1).f6), .int .i64 ((rd_T65 t175 x36_1).f7)] 65 (0, 0)) (by (with_reducible repeat (first | refine blk_drewN ?_ _ | refine blk_drew ?_ | refine blk_alloc ?_ _)); refine blk_put (cs := #[.int .i64 ((rd_T65 t175 x36_1).f0), .int .i64 ((rd_T65 t175 x36_1).f1), .int .i64 ((rd_T65 t175 x36_1).f2), .int .i64 ((rd_T65 t175 x36_1).f3), .int .i64 ((rd_T65 t175 x36_1).f4), .int .i64 ((rd_T65 t175 x36_1).f5), .int .i64 ((rd_T65 t175 x36_1).f6), .int .i64 0]) ?_ 7 _ rfl; (with_reducible repeat (first | refine blk_drewN ?_ _ | refine blk_drew ?_ | refine blk_alloc ?_ _)); refine blk_put (cs := #[.int .i64 ((rd_T65 t175 x36_1).f0), .int .i64 ((rd_T65 t175 x36_1).f1), .int .i64 ((rd_T65 t175 x36_1).f2), .int .i64 ((rd_T65 t175 x36_1).f3), .int .i64 ((rd_T65 t175 x36_1).f4), .int .i64 ((rd_T65 t175 x36_1).f5), .int .i64 0, .int .i64 0]) ?_ 6 _ rfl; (with_reducible repeat (first | refine blk_drewN ?_ _ | refine blk_drew ?_ | refine blk_alloc ?_ _)); refine blk_put (cs := #[.int .i64 ((rd_T65 t175 x36_1).f0), .int .i64 ((rd_T65 t175 x36_1).f1), .int .i64 ((rd_T65 t175 x36_1).f2), .int .i64 ((rd_T65 t175 x36_1).f3), .int .i64 ((rd_T65 t175 x36_1).f4), .int .i64 0, .int .i64 0, .int .i64 0]) ?_ 5 _ rfl; (with_reducible repeat (first | refine blk_drewN ?_ _ | refine blk_drew ?_ | refine blk_alloc ?_ _)); refine blk_put (cs := #[.int .i64 ((rd_T65 t175 x36_1).f0), .int .i64 ((rd_T65 t175 x36_1).f1), .int .i64 ((rd_T65 t175 x36_1).f2), .int .i64 ((rd_T65 t175 x36_1).f3), .int .i64 0, .int .i64 0, .int .i64 0, .int .i64 0]) ?_ 4 _ rfl; (with_reducible repeat (first | refine blk_drewN ?_ _ | refine blk_drew ?_ | refine blk_alloc ?_ _)); refine blk_put (cs := #[.int .i64 ((rd_T65 t175 x36_1).f0), .int .i64 ((rd_T65 t175 x36_1).f1), .int .i64 ((rd_T65 t175 x36_1).f2), .int .i64 0, .int .i64 0, .int .i64 0, .int .i64 0, .int .i64 0]) ?_ 3 _ rfl; (with_reducible repeat (first | refine blk_drewN ?_ _ | refine blk_drew ?_ | refine blk_alloc ?_ _)); refine blk_put (cs := #[.int .i64 ((rd_T65 t175 x36_1).f0), .int .i64 ((rd_T65 t175 x36_1).f1), .int .i64 0, .int .i64 0, .int .i64 0, .int .i64 0, .int .i64 0, .int .i64 0]) ?_ 2 _ rfl; (with_reducible repeat (first | refine blk_drewN ?_ _ | refine blk_drew ?_ | refine blk_alloc ?_ _)); refine blk_put (cs := #[.int .i64 ((rd_T65 t175 x36_1).f0), .int .i64 0, .int .i64 0, .int .i64 0, .int .i64 0, .int .i64 0, .int .i64 0, .int .i64 0]) ?_ 1 _ rfl; (with_reducible repeat (first | refine blk_drewN ?_ _ | refine blk_drew ?_ | refine blk_alloc ?_ _)); refine blk_put (cs := #[.int .i64 0, .int .i64 0, .int .i64 0, .int .i64 0, .int .i64 0, .int .i64 0, .int .i64 0, .int .i64 0]) ?_ 0 _ rfl; (with_reducible repeat (first | refine blk_drewN ?_ _ | refine blk_drew ?_ | refine blk_alloc ?_ _)); exact BK179.out) hb); have n5_ := Aside0.mk (below_step (by repeat (first | (with_reducible first | exact HB.out | apply below_alloc | apply pw_below_drewN | apply below_drew1 | refine below_set ?_ GE170.out | refine below_set ?_ GE171.out | refine below_set ?_ GE179.out) | exact HB.out)) hb); clear HO_11; clear HO_34; clear BK170; clear BK171; clear BK179; clear HB; have HO_11 := n0_; have HO_34 := n1_; have BK170 := n2_; have BK171 := n3_; have BK179 := n4_; have HB := n5_; clear n0_ n1_ n2_ n3_ n4_ n5_; (try clear hb); (try clear hb2); (try clear hk); (try clear hi); have hcz49_0 : w48.cell? ⟨gb179, 0, none⟩ = some (.int .i64 ((rd_T65 t175 x36_1).f0)) := (blk_cell BK179.out 0).trans rfl; have hcz49_1 : w48.cell? ⟨gb179, 1, none⟩ = some (.int .i64 ((rd_T65 t175 x36_1).f1)) := (blk_cell BK179.out 1).trans rfl; have hcz49_2 : w48.cell? ⟨gb179, 2, none⟩ = some (.int .i64 ((rd_T65 t175 x36_1).f2)) := (blk_cell BK179.out 2).trans rfl; have hcz49_3 : w48.cell? ⟨gb179, 3, none⟩ = some (.int .i64 ((rd_T65 t175 x36_1).f3)) := (blk_cell BK179.out 3).trans rfl; have hcz49_4 : w48.cell? ⟨gb179, 4, none⟩ = some (.int .i64 ((rd_T65 t175 x36_1).f4)) := (blk_cell BK179.out 4).trans rfl; have hcz49_5 : w48.cell? ⟨gb179, 5, none⟩ = some (.int .i64 ((rd_T65 t175 x36_1).f5)) := (blk_cell BK179.out 5).trans rfl; have hcz49_6 : w48.cell? ⟨gb179, 6, none⟩ = some (.int .i64 ((rd_T65 t175 x36_1).f6)) := (blk_cell BK179.out 6).trans rfl; have hcz49_7 : w48.cell? ⟨gb179, 7, none⟩ = some (.int .i64 ((rd_T65 t175 x36_1).f7)) := (blk_cell BK179.out 7).trans rfl; have hfz49_0 := blk_frozen BK179.out 0; have hfz49_1 := blk_frozen BK179.out 1; have hfz49_2 := blk_frozen BK179.out 2; have hfz49_3 := blk_frozen BK179.out 3; have hfz49_4 := blk_frozen BK179.out 4; have hfz49_5 := blk_frozen BK179.out 5; have hfz49_6 := blk_frozen BK179.out 6; have hfz49_7 := blk_frozen BK179.out 7; obtain ⟨Ao50, co50, eo50⟩ := Kd.R_slice HO_11.out; subst eo50) | ((with_reducible refine gate_callee (f := 20) rfl ?_); refine goesL_ (some 53) rfl rfl Try.func20 (by kernel_rfl) rfl #[.slice Ao50 t172.length co50, .int .i64 ((rd_T65 t175 x36_1).f2)] rfl (by (try simp only [List.map_toArray, List.map_cons, List.map_nil]); first | done | rfl | (simp only [List.length_drop, List.length_take]; rfl)) ?_; (with_reducible refine (early_At.calls k1 _ _ t172 ((rd_T65 t175 x36_1).f2) t183 true _ ?side1 ?side2 A19.out).mono ?_); (case side1 => repeat (first | exact (Kd.R_reads' HO_11.out).2.2 | (with_reducible refine Kd.C_alloc ?_ _) | (with_reducible refine Kd.C_drewN ?_ _) | (with_reducible refine Kd.C_drew ?_))); (case side2 => exact (Kd.R_reads' HO_11.out).2.1); rintro e w51 ⟨rfl, hb⟩; refine ⟨_, rfl, ?_⟩; have n0_ := Aside0.mk (Kd.R_below (by (with_reducible repeat (first | apply Kd.R_alloc | apply Kd.R_drewN | apply Kd.R_drew)); exact HO_11.out) hb); have n1_ := Aside0.mk (Kd.R_below (by (with_reducible repeat (first | apply Kd.R_alloc | apply Kd.R_drewN | apply Kd.R_drew)); exact HO_34.out) hb); have n2_ := Aside0.mk (blk_below (g := gb170) (o := .cells #[.slice A0_0 l0_0.length c0_0, .int .i64 a0_1, .int .i64 a0_2, .int .i64 a0_3, .slice A0_4 l0_4.length c0_4] 58 (0, 0)) (by (with_reducible repeat (first | refine blk_drewN ?_ _ | refine blk_drew ?_ | refine blk_alloc ?_ _)); exact BK170.out) hb); have n3_ := Aside0.mk (blk_below (g := gb171) (o := .cells #[.int .i64 x172000_1, .int .i64 x172001_1, .int .i64 x172002_1] 56 (0, 0)) (by (with_reducible repeat (first | refine blk_drewN ?_ _ | refine blk_drew ?_ | refine blk_alloc ?_ _)); exact BK171.out) hb); have n4_ := Aside0.mk (blk_below (g := gb179) (o := .cells #[.int .i64 ((rd_T65 t175 x36_1).f0), .int .i64 ((rd_T65 t175 x36_1).f1), .int .i64 ((rd_T65 t175 x36_1).f2), .int .i64 ((rd_T65 t175 x36_1).f3), .int .i64 ((rd_T65 t175 x36_1).f4), .int .i64 ((rd_T65 t175 x36_1).f5), .int .i64 ((rd_T65 t175 x36_1).f6), .int .i64 ((rd_T65 t175 x36_1).f7)] 65 (0, 0)) (by (with_reducible repeat (first | refine blk_drewN ?_ _ | refine blk_drew ?_ | refine blk_alloc ?_ _)); exact BK179.out) hb); have n5_ := Aside0.mk (below_step (by repeat (first | (with_reducible first | exact HB.out | apply below_alloc | apply pw_below_drewN | apply below_drew1 | refine below_set ?_ GE170.out | refine below_set ?_ GE171.out | refine below_set ?_ GE179.out) | exact HB.out)) hb); clear HO_11; clear HO_34; clear BK170; clear BK171; clear BK179; clear HB; have HO_11 := n0_; have HO_34 := n1_; have BK170 := n2_; have BK171 := n3_; have BK179 := n4_; have HB := n5_; clear n0_ n1_ n2_ n3_ n4_ n5_; (try clear hb); (try clear hb2); (try clear hk); (try clear hi); have hcz52_0 : w51.cell? ⟨gb179, 0, none⟩ = some (.int .i64 ((rd_T65 t175 x36_1).f0)) := (blk_cell BK179.out 0).trans rfl; have hcz52_1 : w51.cell? ⟨gb179, 1, none⟩ = some (.int .i64 ((rd_T65 t175 x36_1).f1)) := (blk_cell BK179.out 1).trans rfl; have hcz52_2 : w51.cell? ⟨gb179, 2, none⟩ = some (.int .i64 ((rd_T65 t175 x36_1).f2)) := (blk_cell BK179.out 2).trans rfl; have hcz52_3 : w51.cell? ⟨gb179, 3, none⟩ = some (.int .i64 ((rd_T65 t175 x36_1).f3)) := (blk_cell BK179.out 3).trans rfl; have hcz52_4 : w51.cell? ⟨gb179, 4, none⟩ = some (.int .i64 ((rd_T65 t175 x36_1).f4)) := (blk_cell BK179.out 4).trans rfl; have hcz52_5 : w51.cell? ⟨gb179, 5, none⟩ = some (.int .i64 ((rd_T65 t175 x36_1).f5)) := (blk_cell BK179.out 5).trans rfl; have hcz52_6 : w51.cell? ⟨gb179, 6, none⟩ = some (.int .i64 ((rd_T65 t175 x36_1).f6)) := (blk_cell BK179.out 6).trans rfl; have hcz52_7 : w51.cell? ⟨gb179, 7, none⟩ = some (.int .i64 ((rd_T65 t175 x36_1).f7)) := (blk_cell BK179.out 7).trans rfl; have hfz52_0 := blk_frozen BK179.out 0; have hfz52_1 := blk_frozen BK179.out 1; have hfz52_2 := blk_frozen BK179.out 2; have hfz52_3 := blk_frozen BK179.out 3; have hfz52_4 := blk_frozen BK179.out 4; have hfz52_5 := blk_frozen BK179.out 5; have hfz52_6 := blk_frozen BK179.out 6; have hfz52_7 := blk_frozen BK179.out 7; have hcz53_0 : w51.cell? ⟨gb170, 0, none⟩ = some (.slice A0_0 l0_0.length c0_0) := (blk_cell BK170.out 0).trans rfl; have hcz53_1 : w51.cell? ⟨gb170, 1, none⟩ = some (.int .i64 a0_1) := (blk_cell BK170.out 1).trans rfl; have hcz53_2 : w51.cell? ⟨gb170, 2, none⟩ = some (.int .i64 a0_2) := (blk_cell BK170.out 2).trans rfl; have hcz53_3 : w51.cell? ⟨gb170, 3, none⟩ = some (.int .i64 a0_3) := (blk_cell BK170.out 3).trans rfl; have hcz53_4 : w51.cell? ⟨gb170, 4, none⟩ = some (.slice A0_4 l0_4.length c0_4) := (blk_cell BK170.out 4).trans rfl; have hfz53_0 := blk_frozen BK170.out 0; have hfz53_1 := blk_frozen BK170.out 1; have hfz53_2 := blk_frozen BK170.out 2; have hfz53_3 := blk_frozen BK170.out 3; have hfz53_4 := blk_frozen BK170.out 4) | (go_at_call 56; (with_reducible refine (slices_Contains_int_int.calls k1 _ _ l0_4 ((rd_T65 t175 x36_1).f2) true _ ?side1 ?side2 A40.out).mono ?_); (case side1 => repeat (first | exact (Kd.C_below HR0_4.out HB.out) | (with_reducible refine Kd.C_alloc ?_ _) | (with_reducible refine Kd.C_drewN ?_ _) | (with_reducible refine Kd.C_drew ?_))); (case side2 => exact HC0_4.out); rintro e w' ⟨rfl, ⟨nd, rfl⟩⟩))
                      go_roundg k1
                      case measure => have := HK1.out; omega
                      case rel => exact ⟨(wrap64 (x36_1 + 1)), (x172000_1), (x172001_1), (x172002_1), (by first | rfl | (simp; done) | (simp [*]; done)), H', ⟨by have := HK1.out; omega⟩, ⟨by (with_reducible repeat (first | apply Kd.R_alloc | apply Kd.R_drewN | apply Kd.R_drew)); exact HO_11.out⟩, ⟨by (with_reducible repeat (first | apply Kd.R_alloc | apply Kd.R_drewN | apply Kd.R_drew)); exact Kd.R_mono HO_34.out (fun _ hk => trivial)⟩, ⟨by (with_reducible repeat (first | refine blk_drewN ?_ _ | refine blk_drew ?_ | refine blk_alloc ?_ _)); exact BK170.out⟩, ⟨by (with_reducible repeat (first | refine blk_drewN ?_ _ | refine blk_drew ?_ | refine blk_alloc ?_ _)); exact BK171.out⟩, ⟨by repeat (first | (with_reducible first | exact HB.out | apply below_alloc | apply pw_below_drewN | apply below_drew1 | refine below_set ?_ GE170.out | refine below_set ?_ GE171.out | refine below_set ?_ GE179.out) | exact HB.out)⟩⟩
                    · replace c41 := Bool.eq_false_iff.mpr c41
                      subst c41
                      have H1 : (some ((rd_T65 t175 x36_1).f0, t180, t181, (rd_T65 t175 x36_1).f2, true)) = some (r1, r2, r3, r4, r5) := by rw [if_neg (show ¬ (false = true) by decide)] at H; exact H
                      clear H
                      have H := H1
                      clear H1
                      simp only [Option.some.injEq, Prod.mk.injEq] at H
                      obtain ⟨rfl, rfl, rfl, rfl, rfl⟩ := H
                      have p178 : 0 ≤ (x36_1 : Int) := of_decide_eq_true (by first | (with_reducible assumption) | assumption)
                      have q178 : x36_1 < (t175.length : Int) := of_decide_eq_true (by first | (with_reducible assumption) | assumption)
                      obtain ⟨ad178, e178, hx178_0, hx178_1, hx178_2, hx178_3, hx178_4, hx178_5, hx178_6, hx178_7⟩ := at_T65 (Kd.R_reads' HO_34.out).2.2 x36_1 p178 q178
                      cases e178
                      replace p178 := eq_true p178
                      replace q178 := eq_true q178
                      try go_wp2_with (first | ((with_reducible refine gate_dst (N := 13) rfl ?_); refine box_event ?hg (N := 13) ?hd (cs := #[.int .i64 0, .int .i64 0, .int .i64 0, .int .i64 0, .int .i64 0, .int .i64 0, .int .i64 0, .int .i64 0]) (t := 65) ?hr ?_; (case hd => rfl); (case hg => rfl); (case hr => first | (go_simp; done) | (go_simp; rfl)); intro gb179 hg w54 hbox hb; have n0_ := Aside0.mk (Kd.R_below (by (with_reducible repeat (first | apply Kd.R_alloc | apply Kd.R_drewN | apply Kd.R_drew)); exact HO_11.out) hb); have n1_ := Aside0.mk (Kd.R_below (Kd.R_elderB (by (with_reducible repeat (first | apply Kd.R_alloc | apply Kd.R_drewN | apply Kd.R_drew)); exact HO_34.out) gb179 (Nat.le_of_eq hg.symm)) hb); have n2_ := Aside0.mk (blk_below (g := gb170) (o := .cells #[.slice A0_0 l0_0.length c0_0, .int .i64 a0_1, .int .i64 a0_2, .int .i64 a0_3, .slice A0_4 l0_4.length c0_4] 58 (0, 0)) (by (with_reducible repeat (first | refine blk_drewN ?_ _ | refine blk_drew ?_ | refine blk_alloc ?_ _)); exact BK170.out) hb); have n3_ := Aside0.mk (blk_below (g := gb171) (o := .cells #[.int .i64 x172000_1, .int .i64 x172001_1, .int .i64 x172002_1] 56 (0, 0)) (by (with_reducible repeat (first | refine blk_drewN ?_ _ | refine blk_drew ?_ | refine blk_alloc ?_ _)); exact BK171.out) hb); have n4_ := Aside0.mk (below_step (by repeat (first | (with_reducible first | exact HB.out | apply below_alloc | apply pw_below_drewN | apply below_drew1 | refine below_set ?_ GE170.out | refine below_set ?_ GE171.out) | exact HB.out)) hb); have n5_ := Aside0.mk (hbox); have n6_ := Aside0.mk ((by rw [hg]; exact (below_size (by repeat (first | (with_reducible first | exact HB.out | apply below_alloc | apply pw_below_drewN | apply below_drew1 | refine below_set ?_ GE170.out | refine below_set ?_ GE171.out) | exact HB.out))) : w.heap.size ≤ gb179)); have n7_ := Aside0.mk ((by rw [hg]; exact (below_size (by repeat (first | (with_reducible first | exact HB.out | apply below_alloc | apply pw_below_drewN | apply below_drew1 | refine below_set ?_ GE170.out | refine below_set ?_ GE171.out) | exact HB.out))) : w.heap.size ≤ gb179)); have n8_ := Aside0.mk ((by rw [hg]; exact Nat.ne_of_lt (blk_lt (g := gb170) (o := .cells #[.slice A0_0 l0_0.length c0_0, .int .i64 a0_1, .int .i64 a0_2, .int .i64 a0_3, .slice A0_4 l0_4.length c0_4] 58 (0, 0)) (by (with_reducible repeat (first | refine blk_drewN ?_ _ | refine blk_drew ?_ | refine blk_alloc ?_ _)); exact BK170.out)) : gb170 ≠ gb179)); have n9_ := Aside0.mk ((by rw [hg]; exact Nat.ne_of_gt (blk_lt (g := gb170) (o := .cells #[.slice A0_0 l0_0.length c0_0, .int .i64 a0_1, .int .i64 a0_2, .int .i64 a0_3, .slice A0_4 l0_4.length c0_4] 58 (0, 0)) (by (with_reducible repeat (first | refine blk_drewN ?_ _ | refine blk_drew ?_ | refine blk_alloc ?_ _)); exact BK170.out)) : gb179 ≠ gb170)); have n10_ := Aside0.mk ((by rw [hg]; exact Nat.ne_of_lt (blk_lt (g := gb171) (o := .cells #[.int .i64 x172000_1, .int .i64 x172001_1, .int .i64 x172002_1] 56 (0, 0)) (by (with_reducible repeat (first | refine blk_drewN ?_ _ | refine blk_drew ?_ | refine blk_alloc ?_ _)); exact BK171.out)) : gb171 ≠ gb179)); have n11_ := Aside0.mk ((by rw [hg]; exact Nat.ne_of_gt (blk_lt (g := gb171) (o := .cells #[.int .i64 x172000_1, .int .i64 x172001_1, .int .i64 x172002_1] 56 (0, 0)) (by (with_reducible repeat (first | refine blk_drewN ?_ _ | refine blk_drew ?_ | refine blk_alloc ?_ _)); exact BK171.out)) : gb179 ≠ gb171)); clear HO_11; clear HO_34; clear BK170; clear BK171; clear HB; have HO_11 := n0_; have HO_34 := n1_; have BK170 := n2_; have BK171 := n3_; have HB := n4_; have BK179 := n5_; have GW179 := n6_; have GE179 := n7_; have NB170_179 := n8_; have NB179_170 := n9_; have NB171_179 := n10_; have NB179_171 := n11_; clear n0_ n1_ n2_ n3_ n4_ n5_ n6_ n7_ n8_ n9_ n10_ n11_; clear hb hbox hg; have hnb55 := NB179_170.out; have hnc55 := NB170_179.out; have hnb56 := NB179_171.out; have hnc56 := NB171_179.out; have hcz57_0 : w54.cell? ⟨gb179, 0, none⟩ = some (.int .i64 0) := (blk_cell BK179.out 0).trans rfl; have hcz57_1 : w54.cell? ⟨gb179, 1, none⟩ = some (.int .i64 0) := (blk_cell BK179.out 1).trans rfl; have hcz57_2 : w54.cell? ⟨gb179, 2, none⟩ = some (.int .i64 0) := (blk_cell BK179.out 2).trans rfl; have hcz57_3 : w54.cell? ⟨gb179, 3, none⟩ = some (.int .i64 0) := (blk_cell BK179.out 3).trans rfl; have hcz57_4 : w54.cell? ⟨gb179, 4, none⟩ = some (.int .i64 0) := (blk_cell BK179.out 4).trans rfl; have hcz57_5 : w54.cell? ⟨gb179, 5, none⟩ = some (.int .i64 0) := (blk_cell BK179.out 5).trans rfl; have hcz57_6 : w54.cell? ⟨gb179, 6, none⟩ = some (.int .i64 0) := (blk_cell BK179.out 6).trans rfl; have hcz57_7 : w54.cell? ⟨gb179, 7, none⟩ = some (.int .i64 0) := (blk_cell BK179.out 7).trans rfl; have hfz57_0 := blk_frozen BK179.out 0; have hfz57_1 := blk_frozen BK179.out 1; have hfz57_2 := blk_frozen BK179.out 2; have hfz57_3 := blk_frozen BK179.out 3; have hfz57_4 := blk_frozen BK179.out 4; have hfz57_5 := blk_frozen BK179.out 5; have hfz57_6 := blk_frozen BK179.out 6; have hfz57_7 := blk_frozen BK179.out 7; have hnb58 := NB170_171.out; have hnc58 := NB171_170.out; have hcz59_0 : w54.cell? ⟨gb170, 0, none⟩ = some (.slice A0_0 l0_0.length c0_0) := (blk_cell BK170.out 0).trans rfl; have hcz59_1 : w54.cell? ⟨gb170, 1, none⟩ = some (.int .i64 a0_1) := (blk_cell BK170.out 1).trans rfl; have hcz59_2 : w54.cell? ⟨gb170, 2, none⟩ = some (.int .i64 a0_2) := (blk_cell BK170.out 2).trans rfl; have hcz59_3 : w54.cell? ⟨gb170, 3, none⟩ = some (.int .i64 a0_3) := (blk_cell BK170.out 3).trans rfl; have hcz59_4 : w54.cell? ⟨gb170, 4, none⟩ = some (.slice A0_4 l0_4.length c0_4) := (blk_cell BK170.out 4).trans rfl; have hfz59_0 := blk_frozen BK170.out 0; have hfz59_1 := blk_frozen BK170.out 1; have hfz59_2 := blk_frozen BK170.out 2; have hfz59_3 := blk_frozen BK170.out 3; have hfz59_4 := blk_frozen BK170.out 4) | ((with_reducible refine gate_callee (f := 46) rfl ?_); refine goesL_ (some 45) rfl rfl Try.func46 (by kernel_rfl) rfl #[.agg #[.int .i64 ((rd_T65 t175 x36_1).f0), .int .i64 ((rd_T65 t175 x36_1).f1), .int .i64 ((rd_T65 t175 x36_1).f2), .int .i64 ((rd_T65 t175 x36_1).f3), .int .i64 ((rd_T65 t175 x36_1).f4), .int .i64 ((rd_T65 t175 x36_1).f5), .int .i64 ((rd_T65 t175 x36_1).f6), .int .i64 ((rd_T65 t175 x36_1).f7)], .int .i64 a2, .int .i64 a0_2] rfl (by (try simp only [List.map_toArray, List.map_cons, List.map_nil]); first | done | rfl | (simp only [List.length_drop, List.length_take]; rfl)) ?_; (with_reducible refine (hop_Pass.calls k1 ((rd_T65 t175 x36_1).f0) ((rd_T65 t175 x36_1).f1) ((rd_T65 t175 x36_1).f2) ((rd_T65 t175 x36_1).f3) ((rd_T65 t175 x36_1).f4) ((rd_T65 t175 x36_1).f5) ((rd_T65 t175 x36_1).f6) ((rd_T65 t175 x36_1).f7) a2 a0_2 t180 t181 true _ A18.out).mono ?_); rintro e w60 ⟨rfl, hb⟩; refine ⟨_, rfl, ?_⟩; have n0_ := Aside0.mk (Kd.R_below (by (with_reducible repeat (first | apply Kd.R_alloc | apply Kd.R_drewN | apply Kd.R_drew)); exact (Kd.R_mono (Kd.R_far (p := ⟨gb179, 7, none⟩) (Kd.R_far (p := ⟨gb179, 6, none⟩) (Kd.R_far (p := ⟨gb179, 5, none⟩) (Kd.R_far (p := ⟨gb179, 4, none⟩) (Kd.R_far (p := ⟨gb179, 3, none⟩) (Kd.R_far (p := ⟨gb179, 2, none⟩) (Kd.R_far (p := ⟨gb179, 1, none⟩) (Kd.R_far (p := ⟨gb179, 0, none⟩) (Kd.R_types HO_11.out BK179.out (by decide)) (fun _ hk => hk.2) (.int .i64 ((rd_T65 t175 x36_1).f0))) (fun _ hk => hk.2) (.int .i64 ((rd_T65 t175 x36_1).f1))) (fun _ hk => hk.2) (.int .i64 ((rd_T65 t175 x36_1).f2))) (fun _ hk => hk.2) (.int .i64 ((rd_T65 t175 x36_1).f3))) (fun _ hk => hk.2) (.int .i64 ((rd_T65 t175 x36_1).f4))) (fun _ hk => hk.2) (.int .i64 ((rd_T65 t175 x36_1).f5))) (fun _ hk => hk.2) (.int .i64 ((rd_T65 t175 x36_1).f6))) (fun _ hk => hk.2) (.int .i64 ((rd_T65 t175 x36_1).f7))) (fun _ h_ => h_.1))) hb); have n1_ := Aside0.mk (Kd.R_below (by (with_reducible repeat (first | apply Kd.R_alloc | apply Kd.R_drewN | apply Kd.R_drew)); exact (Kd.R_mono (Kd.R_far (p := ⟨gb179, 7, none⟩) (Kd.R_far (p := ⟨gb179, 6, none⟩) (Kd.R_far (p := ⟨gb179, 5, none⟩) (Kd.R_far (p := ⟨gb179, 4, none⟩) (Kd.R_far (p := ⟨gb179, 3, none⟩) (Kd.R_far (p := ⟨gb179, 2, none⟩) (Kd.R_far (p := ⟨gb179, 1, none⟩) (Kd.R_far (p := ⟨gb179, 0, none⟩) (Kd.R_mono HO_34.out (fun k_ hk => (⟨hk, hk.2⟩ : _ ∧ k_ ≠ gb179))) (fun _ hk => hk.2) (.int .i64 ((rd_T65 t175 x36_1).f0))) (fun _ hk => hk.2) (.int .i64 ((rd_T65 t175 x36_1).f1))) (fun _ hk => hk.2) (.int .i64 ((rd_T65 t175 x36_1).f2))) (fun _ hk => hk.2) (.int .i64 ((rd_T65 t175 x36_1).f3))) (fun _ hk => hk.2) (.int .i64 ((rd_T65 t175 x36_1).f4))) (fun _ hk => hk.2) (.int .i64 ((rd_T65 t175 x36_1).f5))) (fun _ hk => hk.2) (.int .i64 ((rd_T65 t175 x36_1).f6))) (fun _ hk => hk.2) (.int .i64 ((rd_T65 t175 x36_1).f7))) (fun _ h_ => h_.1))) hb); have n2_ := Aside0.mk (blk_below (g := gb170) (o := .cells #[.slice A0_0 l0_0.length c0_0, .int .i64 a0_1, .int .i64 a0_2, .int .i64 a0_3, .slice A0_4 l0_4.length c0_4] 58 (0, 0)) (by (with_reducible repeat (first | refine blk_drewN ?_ _ | refine blk_drew ?_ | refine blk_alloc ?_ _)); refine blk_far ?_ NB170_179.out _; (with_reducible repeat (first | refine blk_drewN ?_ _ | refine blk_drew ?_ | refine blk_alloc ?_ _)); refine blk_far ?_ NB170_179.out _; (with_reducible repeat (first | refine blk_drewN ?_ _ | refine blk_drew ?_ | refine blk_alloc ?_ _)); refine blk_far ?_ NB170_179.out _; (with_reducible repeat (first | refine blk_drewN ?_ _ | refine blk_drew ?_ | refine blk_alloc ?_ _)); refine blk_far ?_ NB170_179.out _; (with_reducible repeat (first | refine blk_drewN ?_ _ | refine blk_drew ?_ | refine blk_alloc ?_ _)); refine blk_far ?_ NB170_179.out _; (with_reducible repeat (first | refine blk_drewN ?_ _ | refine blk_drew ?_ | refine blk_alloc ?_ _)); refine blk_far ?_ NB170_179.out _; (with_reducible repeat (first | refine blk_drewN ?_ _ | refine blk_drew ?_ | refine blk_alloc ?_ _)); refine blk_far ?_ NB170_179.out _; (with_reducible repeat (first | refine blk_drewN ?_ _ | refine blk_drew ?_ | refine blk_alloc ?_ _)); refine blk_far ?_ NB170_179.out _; (with_reducible repeat (first | refine blk_drewN ?_ _ | refine blk_drew ?_ | refine blk_alloc ?_ _)); exact BK170.out) hb); have n3_ := Aside0.mk (blk_below (g := gb171) (o := .cells #[.int .i64 x172000_1, .int .i64 x172001_1, .int .i64 x172002_1] 56 (0, 0)) (by (with_reducible repeat (first | refine blk_drewN ?_ _ | refine blk_drew ?_ | refine blk_alloc ?_ _)); refine blk_far ?_ NB171_179.out _; (with_reducible repeat (first | refine blk_drewN ?_ _ | refine blk_drew ?_ | refine blk_alloc ?_ _)); refine blk_far ?_ NB171_179.out _; (with_reducible repeat (first | refine blk_drewN ?_ _ | refine blk_drew ?_ | refine blk_alloc ?_ _)); refine blk_far ?_ NB171_179.out _; (with_reducible repeat (first | refine blk_drewN ?_ _ | refine blk_drew ?_ | refine blk_alloc ?_ _)); refine blk_far ?_ NB171_179.out _; (with_reducible repeat (first | refine blk_drewN ?_ _ | refine blk_drew ?_ | refine blk_alloc ?_ _)); refine blk_far ?_ NB171_179.out _; (with_reducible repeat (first | refine blk_drewN ?_ _ | refine blk_drew ?_ | refine blk_alloc ?_ _)); refine blk_far ?_ NB171_179.out _; (with_reducible repeat (first | refine blk_drewN ?_ _ | refine blk_drew ?_ | refine blk_alloc ?_ _)); refine blk_far ?_ NB171_179.out _; (with_reducible repeat (first | refine blk_drewN ?_ _ | refine blk_drew ?_ | refine blk_alloc ?_ _)); refine blk_far ?_ NB171_179.out _; (with_reducible repeat (first | refine blk_drewN ?_ _ | refine blk_drew ?_ | refine blk_alloc ?_ _)); exact BK171.out) hb); have n4_ := Aside0.mk (blk_below (g := gb179) (o := .cells #[.int .i64 ((rd_T65 t175 x36_1).f0), .int .i64 ((rd_T65 t175 x36_1).f1), .int .i64 ((rd_T65 t175 x36_1).f2), .int .i64 ((rd_T65 t175 x36_1).f3), .int .i64 ((rd_T65 t175 x36_1).f4), .int .i64 ((rd_T65 t175 x36_1).f5), .int .i64 ((rd_T65 t175 x36_1).f6), .int .i64 ((rd_T65 t175 x36_1).f7)] 65 (0, 0)) (by (with_reducible repeat (first | refine blk_drewN ?_ _ | refine blk_drew ?_ | refine blk_alloc ?_ _)); refine blk_put (cs := #[.int .i64 ((rd_T65 t175 x36_1).f0), .int .i64 ((rd_T65 t175 x36_1).f1), .int .i64 ((rd_T65 t175 x36_1).f2), .int .i64 ((rd_T65 t175 x36_1).f3), .int .i64 ((rd_T65 t175 x36_1).f4), .int .i64 ((rd_T65 t175 x36_1).f5), .int .i64 ((rd_T65 t175 x36_1).f6), .int .i64 0]) ?_ 7 _ rfl; (with_reducible repeat (first | refine blk_drewN ?_ _ | refine blk_drew ?_ | refine blk_alloc ?_ _)); refine blk_put (cs := #[.int .i64 ((rd_T65 t175 x36_1).f0), .int .i64 ((rd_T65 t175 x36_1).f1), .int .i64 ((rd_T65 t175 x36_1).f2), .int .i64 ((rd_T65 t175 x36_1).f3), .int .i64 ((rd_T65 t175 x36_1).f4), .int .i64 ((rd_T65 t175 x36_1).f5), .int .i64 0, .int .i64 0]) ?_ 6 _ rfl; (with_reducible repeat (first | refine blk_drewN ?_ _ | refine blk_drew ?_ | refine blk_alloc ?_ _)); refine blk_put (cs := #[.int .i64 ((rd_T65 t175 x36_1).f0), .int .i64 ((rd_T65 t175 x36_1).f1), .int .i64 ((rd_T65 t175 x36_1).f2), .int .i64 ((rd_T65 t175 x36_1).f3), .int .i64 ((rd_T65 t175 x36_1).f4), .int .i64 0, .int .i64 0, .int .i64 0]) ?_ 5 _ rfl; (with_reducible repeat (first | refine blk_drewN ?_ _ | refine blk_drew ?_ | refine blk_alloc ?_ _)); refine blk_put (cs := #[.int .i64 ((rd_T65 t175 x36_1).f0), .int .i64 ((rd_T65 t175 x36_1).f1), .int .i64 ((rd_T65 t175 x36_1).f2), .int .i64 ((rd_T65 t175 x36_1).f3), .int .i64 0, .int .i64 0, .int .i64 0, .int .i64 0]) ?_ 4 _ rfl; (with_reducible repeat (first | refine blk_drewN ?_ _ | refine blk_drew ?_ | refine blk_alloc ?_ _)); refine blk_put (cs := #[.int .i64 ((rd_T65 t175 x36_1).f0), .int .i64 ((rd_T65 t175 x36_1).f1), .int .i64 ((rd_T65 t175 x36_1).f2), .int .i64 0, .int .i64 0, .int .i64 0, .int .i64 0, .int .i64 0]) ?_ 3 _ rfl; (with_reducible repeat (first | refine blk_drewN ?_ _ | refine blk_drew ?_ | refine blk_alloc ?_ _)); refine blk_put (cs := #[.int .i64 ((rd_T65 t175 x36_1).f0), .int .i64 ((rd_T65 t175 x36_1).f1), .int .i64 0, .int .i64 0, .int .i64 0, .int .i64 0, .int .i64 0, .int .i64 0]) ?_ 2 _ rfl; (with_reducible repeat (first | refine blk_drewN ?_ _ | refine blk_drew ?_ | refine blk_alloc ?_ _)); refine blk_put (cs := #[.int .i64 ((rd_T65 t175 x36_1).f0), .int .i64 0, .int .i64 0, .int .i64 0, .int .i64 0, .int .i64 0, .int .i64 0, .int .i64 0]) ?_ 1 _ rfl; (with_reducible repeat (first | refine blk_drewN ?_ _ | refine blk_drew ?_ | refine blk_alloc ?_ _)); refine blk_put (cs := #[.int .i64 0, .int .i64 0, .int .i64 0, .int .i64 0, .int .i64 0, .int .i64 0, .int .i64 0, .int .i64 0]) ?_ 0 _ rfl; (with_reducible repeat (first | refine blk_drewN ?_ _ | refine blk_drew ?_ | refine blk_alloc ?_ _)); exact BK179.out) hb); have n5_ := Aside0.mk (below_step (by repeat (first | (with_reducible first | exact HB.out | apply below_alloc | apply pw_below_drewN | apply below_drew1 | refine below_set ?_ GE170.out | refine below_set ?_ GE171.out | refine below_set ?_ GE179.out) | exact HB.out)) hb); clear HO_11; clear HO_34; clear BK170; clear BK171; clear BK179; clear HB; have HO_11 := n0_; have HO_34 := n1_; have BK170 := n2_; have BK171 := n3_; have BK179 := n4_; have HB := n5_; clear n0_ n1_ n2_ n3_ n4_ n5_; (try clear hb); (try clear hb2); (try clear hk); (try clear hi); have hcz61_0 : w60.cell? ⟨gb179, 0, none⟩ = some (.int .i64 ((rd_T65 t175 x36_1).f0)) := (blk_cell BK179.out 0).trans rfl; have hcz61_1 : w60.cell? ⟨gb179, 1, none⟩ = some (.int .i64 ((rd_T65 t175 x36_1).f1)) := (blk_cell BK179.out 1).trans rfl; have hcz61_2 : w60.cell? ⟨gb179, 2, none⟩ = some (.int .i64 ((rd_T65 t175 x36_1).f2)) := (blk_cell BK179.out 2).trans rfl; have hcz61_3 : w60.cell? ⟨gb179, 3, none⟩ = some (.int .i64 ((rd_T65 t175 x36_1).f3)) := (blk_cell BK179.out 3).trans rfl; have hcz61_4 : w60.cell? ⟨gb179, 4, none⟩ = some (.int .i64 ((rd_T65 t175 x36_1).f4)) := (blk_cell BK179.out 4).trans rfl; have hcz61_5 : w60.cell? ⟨gb179, 5, none⟩ = some (.int .i64 ((rd_T65 t175 x36_1).f5)) := (blk_cell BK179.out 5).trans rfl; have hcz61_6 : w60.cell? ⟨gb179, 6, none⟩ = some (.int .i64 ((rd_T65 t175 x36_1).f6)) := (blk_cell BK179.out 6).trans rfl; have hcz61_7 : w60.cell? ⟨gb179, 7, none⟩ = some (.int .i64 ((rd_T65 t175 x36_1).f7)) := (blk_cell BK179.out 7).trans rfl; have hfz61_0 := blk_frozen BK179.out 0; have hfz61_1 := blk_frozen BK179.out 1; have hfz61_2 := blk_frozen BK179.out 2; have hfz61_3 := blk_frozen BK179.out 3; have hfz61_4 := blk_frozen BK179.out 4; have hfz61_5 := blk_frozen BK179.out 5; have hfz61_6 := blk_frozen BK179.out 6; have hfz61_7 := blk_frozen BK179.out 7; obtain ⟨Ao62, co62, eo62⟩ := Kd.R_slice HO_11.out; subst eo62) | ((with_reducible refine gate_callee (f := 20) rfl ?_); refine goesL_ (some 53) rfl rfl Try.func20 (by kernel_rfl) rfl #[.slice Ao62 t172.length co62, .int .i64 ((rd_T65 t175 x36_1).f2)] rfl (by (try simp only [List.map_toArray, List.map_cons, List.map_nil]); first | done | rfl | (simp only [List.length_drop, List.length_take]; rfl)) ?_; (with_reducible refine (early_At.calls k1 _ _ t172 ((rd_T65 t175 x36_1).f2) t183 true _ ?side1 ?side2 A19.out).mono ?_); (case side1 => repeat (first | exact (Kd.R_reads' HO_11.out).2.2 | (with_reducible refine Kd.C_alloc ?_ _) | (with_reducible refine Kd.C_drewN ?_ _) | (with_reducible refine Kd.C_drew ?_))); (case side2 => exact (Kd.R_reads' HO_11.out).2.1); rintro e w63 ⟨rfl, hb⟩; refine ⟨_, rfl, ?_⟩; have n0_ := Aside0.mk (Kd.R_below (by (with_reducible repeat (first | apply Kd.R_alloc | apply Kd.R_drewN | apply Kd.R_drew)); exact HO_11.out) hb); have n1_ := Aside0.mk (Kd.R_below (by (with_reducible repeat (first | apply Kd.R_alloc | apply Kd.R_drewN | apply Kd.R_drew)); exact HO_34.out) hb); have n2_ := Aside0.mk (blk_below (g := gb170) (o := .cells #[.slice A0_0 l0_0.length c0_0, .int .i64 a0_1, .int .i64 a0_2, .int .i64 a0_3, .slice A0_4 l0_4.length c0_4] 58 (0, 0)) (by (with_reducible repeat (first | refine blk_drewN ?_ _ | refine blk_drew ?_ | refine blk_alloc ?_ _)); exact BK170.out) hb); have n3_ := Aside0.mk (blk_below (g := gb171) (o := .cells #[.int .i64 x172000_1, .int .i64 x172001_1, .int .i64 x172002_1] 56 (0, 0)) (by (with_reducible repeat (first | refine blk_drewN ?_ _ | refine blk_drew ?_ | refine blk_alloc ?_ _)); exact BK171.out) hb); have n4_ := Aside0.mk (blk_below (g := gb179) (o := .cells #[.int .i64 ((rd_T65 t175 x36_1).f0), .int .i64 ((rd_T65 t175 x36_1).f1), .int .i64 ((rd_T65 t175 x36_1).f2), .int .i64 ((rd_T65 t175 x36_1).f3), .int .i64 ((rd_T65 t175 x36_1).f4), .int .i64 ((rd_T65 t175 x36_1).f5), .int .i64 ((rd_T65 t175 x36_1).f6), .int .i64 ((rd_T65 t175 x36_1).f7)] 65 (0, 0)) (by (with_reducible repeat (first | refine blk_drewN ?_ _ | refine blk_drew ?_ | refine blk_alloc ?_ _)); exact BK179.out) hb); have n5_ := Aside0.mk (below_step (by repeat (first | (with_reducible first | exact HB.out | apply below_alloc | apply pw_below_drewN | apply below_drew1 | refine below_set ?_ GE170.out | refine below_set ?_ GE171.out | refine below_set ?_ GE179.out) | exact HB.out)) hb); clear HO_11; clear HO_34; clear BK170; clear BK171; clear BK179; clear HB; have HO_11 := n0_; have HO_34 := n1_; have BK170 := n2_; have BK171 := n3_; have BK179 := n4_; have HB := n5_; clear n0_ n1_ n2_ n3_ n4_ n5_; (try clear hb); (try clear hb2); (try clear hk); (try clear hi); have hcz64_0 : w63.cell? ⟨gb179, 0, none⟩ = some (.int .i64 ((rd_T65 t175 x36_1).f0)) := (blk_cell BK179.out 0).trans rfl; have hcz64_1 : w63.cell? ⟨gb179, 1, none⟩ = some (.int .i64 ((rd_T65 t175 x36_1).f1)) := (blk_cell BK179.out 1).trans rfl; have hcz64_2 : w63.cell? ⟨gb179, 2, none⟩ = some (.int .i64 ((rd_T65 t175 x36_1).f2)) := (blk_cell BK179.out 2).trans rfl; have hcz64_3 : w63.cell? ⟨gb179, 3, none⟩ = some (.int .i64 ((rd_T65 t175 x36_1).f3)) := (blk_cell BK179.out 3).trans rfl; have hcz64_4 : w63.cell? ⟨gb179, 4, none⟩ = some (.int .i64 ((rd_T65 t175 x36_1).f4)) := (blk_cell BK179.out 4).trans rfl; have hcz64_5 : w63.cell? ⟨gb179, 5, none⟩ = some (.int .i64 ((rd_T65 t175 x36_1).f5)) := (blk_cell BK179.out 5).trans rfl; have hcz64_6 : w63.cell? ⟨gb179, 6, none⟩ = some (.int .i64 ((rd_T65 t175 x36_1).f6)) := (blk_cell BK179.out 6).trans rfl; have hcz64_7 : w63.cell? ⟨gb179, 7, none⟩ = some (.int .i64 ((rd_T65 t175 x36_1).f7)) := (blk_cell BK179.out 7).trans rfl; have hfz64_0 := blk_frozen BK179.out 0; have hfz64_1 := blk_frozen BK179.out 1; have hfz64_2 := blk_frozen BK179.out 2; have hfz64_3 := blk_frozen BK179.out 3; have hfz64_4 := blk_frozen BK179.out 4; have hfz64_5 := blk_frozen BK179.out 5; have hfz64_6 := blk_frozen BK179.out 6; have hfz64_7 := blk_frozen BK179.out 7; have hcz65_0 : w63.cell? ⟨gb170, 0, none⟩ = some (.slice A0_0 l0_0.length c0_0) := (blk_cell BK170.out 0).trans rfl; have hcz65_1 : w63.cell? ⟨gb170, 1, none⟩ = some (.int .i64 a0_1) := (blk_cell BK170.out 1).trans rfl; have hcz65_2 : w63.cell? ⟨gb170, 2, none⟩ = some (.int .i64 a0_2) := (blk_cell BK170.out 2).trans rfl; have hcz65_3 : w63.cell? ⟨gb170, 3, none⟩ = some (.int .i64 a0_3) := (blk_cell BK170.out 3).trans rfl; have hcz65_4 : w63.cell? ⟨gb170, 4, none⟩ = some (.slice A0_4 l0_4.length c0_4) := (blk_cell BK170.out 4).trans rfl; have hfz65_0 := blk_frozen BK170.out 0; have hfz65_1 := blk_frozen BK170.out 1; have hfz65_2 := blk_frozen BK170.out 2; have hfz65_3 := blk_frozen BK170.out 3; have hfz65_4 := blk_frozen BK170.out 4) | (go_at_call 56; (with_reducible refine (slices_Contains_int_int.calls k1 _ _ l0_4 ((rd_T65 t175 x36_1).f2) false _ ?side1 ?side2 A40.out).mono ?_); (case side1 => repeat (first | exact (Kd.C_below HR0_4.out HB.out) | (with_reducible refine Kd.C_alloc ?_ _) | (with_reducible refine Kd.C_drewN ?_ _) | (with_reducible refine Kd.C_drew ?_))); (case side2 => exact HC0_4.out); rintro e w' ⟨rfl, ⟨nd, rfl⟩⟩; (try (rw [drewN_self w63]; generalize hq_ : World.drewN w63 _ = w63; have n0_ : Aside0 (Kd.R k71 71 w63 w.heap.size (fun _ => True) (.slice Ao62 t172.length co62) t172) := ⟨by rw [← hq_]; exact (by (with_reducible repeat (first | apply Kd.R_alloc | apply Kd.R_drewN | apply Kd.R_drew)); exact HO_11.out)⟩; have n1_ : Aside0 (Kd.R k65 65 w63 w.heap.size (fun k_ => k_ ≠ gb179) (.slice (some ad178) t175.length co14) t175) := ⟨by rw [← hq_]; exact (by (with_reducible repeat (first | apply Kd.R_alloc | apply Kd.R_drewN | apply Kd.R_drew)); exact Kd.R_mono HO_34.out (fun _ hk => hk.2))⟩; have n2_ : Aside0 (w63.heap[gb170]? = some (.cells #[.slice A0_0 l0_0.length c0_0, .int .i64 a0_1, .int .i64 a0_2, .int .i64 a0_3, .slice A0_4 l0_4.length c0_4] 58 (0, 0))) := ⟨by rw [← hq_]; exact (by (with_reducible repeat (first | refine blk_drewN ?_ _ | refine blk_drew ?_ | refine blk_alloc ?_ _)); exact BK170.out)⟩; have n3_ : Aside0 (w63.heap[gb171]? = some (.cells #[.int .i64 x172000_1, .int .i64 x172001_1, .int .i64 x172002_1] 56 (0, 0))) := ⟨by rw [← hq_]; exact (by (with_reducible repeat (first | refine blk_drewN ?_ _ | refine blk_drew ?_ | refine blk_alloc ?_ _)); exact BK171.out)⟩; have n4_ : Aside0 (w63.heap[gb179]? = some (.cells #[.int .i64 ((rd_T65 t175 x36_1).f0), .int .i64 ((rd_T65 t175 x36_1).f1), .int .i64 ((rd_T65 t175 x36_1).f2), .int .i64 ((rd_T65 t175 x36_1).f3), .int .i64 ((rd_T65 t175 x36_1).f4), .int .i64 ((rd_T65 t175 x36_1).f5), .int .i64 ((rd_T65 t175 x36_1).f6), .int .i64 ((rd_T65 t175 x36_1).f7)] 65 (0, 0))) := ⟨by rw [← hq_]; exact (by (with_reducible repeat (first | refine blk_drewN ?_ _ | refine blk_drew ?_ | refine blk_alloc ?_ _)); exact BK179.out)⟩; have n5_ : Aside0 (Below w.heap.size w w63) := ⟨by rw [← hq_]; exact (by repeat (first | (with_reducible first | exact HB.out | apply below_alloc | apply pw_below_drewN | apply below_drew1 | refine below_set ?_ GE170.out | refine below_set ?_ GE171.out | refine below_set ?_ GE179.out) | exact HB.out))⟩; clear HO_11 HO_34 BK170 BK171 BK179 HB hq_; have HO_11 := n0_; have HO_34 := n1_; have BK170 := n2_; have BK171 := n3_; have BK179 := n4_; have HB := n5_; clear n0_ n1_ n2_ n3_ n4_ n5_))))
                      have n0_ := Aside0.mk (Kd.R_drew HO_11.out)
                      have n1_ := Aside0.mk (Kd.R_drew HO_34.out)
                      have n2_ := Aside0.mk (blk_drew BK170.out)
                      have n3_ := Aside0.mk (blk_drew BK171.out)
                      have n4_ := Aside0.mk (blk_drew BK179.out)
                      have n5_ := Aside0.mk (below_drew1 HB.out)
                      clear HO_11
                      clear HO_34
                      clear BK170
                      clear BK171
                      clear BK179
                      clear HB
                      have HO_11 := n0_
                      have HO_34 := n1_
                      have BK170 := n2_
                      have BK171 := n3_
                      have BK179 := n4_
                      have HB := n5_
                      clear n0_ n1_ n2_ n3_ n4_ n5_
                      refine start_ (n := 10) (S := fun w' => w'.cell? ⟨gb179, 0, none⟩ = some (.int .i64 ((rd_T65 t175 x36_1).f0)) ∧ w'.cell? ⟨gb179, 1, none⟩ = some (.int .i64 ((rd_T65 t175 x36_1).f1)) ∧ w'.cell? ⟨gb179, 2, none⟩ = some (.int .i64 ((rd_T65 t175 x36_1).f2)) ∧ w'.cell? ⟨gb179, 3, none⟩ = some (.int .i64 ((rd_T65 t175 x36_1).f3)) ∧ w'.cell? ⟨gb179, 4, none⟩ = some (.int .i64 ((rd_T65 t175 x36_1).f4)) ∧ w'.cell? ⟨gb179, 5, none⟩ = some (.int .i64 ((rd_T65 t175 x36_1).f5)) ∧ w'.cell? ⟨gb179, 6, none⟩ = some (.int .i64 ((rd_T65 t175 x36_1).f6)) ∧ w'.cell? ⟨gb179, 7, none⟩ = some (.int .i64 ((rd_T65 t175 x36_1).f7))) (ds := []) #[false, false, false, false, false, false, false, false, false, false] (by kernel_rfl) rfl rfl ⟨(blk_cell BK179.out 0).trans rfl, (blk_cell BK179.out 1).trans rfl, (blk_cell BK179.out 2).trans rfl, (blk_cell BK179.out 3).trans rfl, (blk_cell BK179.out 4).trans rfl, (blk_cell BK179.out 5).trans rfl, (blk_cell BK179.out 6).trans rfl, (blk_cell BK179.out 7).trans rfl⟩ (fun hHeld => ?_); refine with_tabW least_search_next.tab8 least_search_next.bits8 (fun HT_ HW_ => ?_)
                      generalize w63.drew = w66 at HO_11 HO_34 BK170 BK171 BK179 HB hHeld ⊢
                      refine pure_ (i := 0) (N := some 80) (v := ?_) (a' := ?_) #[true, false, false, false, false, false, false, false, false, false] rfl rfl (any_of HT_.out (by kernel_rfl)) (fun _ _ _ h => h) (Or.inl ⟨by rfl, ?_⟩) ?_ ?_
                      rotate_left
                      · intro w'
                        go_simp
                        with_reducible rfl
                      rotate_left
                      · simp only [Act.put, List.setIfInBounds_toArray, List.set_cons_zero, List.set_cons_succ, i64_w, i32_w]
                        rfl
                      refine pure_ (i := 2) (N := some 82) (v := ?_) (a' := ?_) #[true, false, true, false, false, false, false, false, false, false] rfl rfl (any_of HT_.out (by kernel_rfl)) (fun _ _ _ h => h) (Or.inl ⟨by rfl, ?_⟩) ?_ ?_
                      rotate_left
                      · intro w'
                        go_simp
                        with_reducible rfl
                      rotate_left
                      · simp only [Act.put, List.setIfInBounds_toArray, List.set_cons_zero, List.set_cons_succ, i64_w, i32_w]
                        rfl
                      refine pure_ (i := 3) (N := some 83) (v := ?_) (a' := ?_) #[true, false, true, true, false, false, false, false, false, false] rfl rfl (any_of HT_.out (by kernel_rfl)) (fun _ _ _ h => h) (Or.inl ⟨by rfl, ?_⟩) ?_ ?_
                      rotate_left
                      · intro w'
                        go_simp
                        with_reducible rfl
                      rotate_left
                      · simp only [Act.put, List.setIfInBounds_toArray, List.set_cons_zero, List.set_cons_succ, i64_w, i32_w]
                        rfl
                      refine pure_ (i := 5) (N := some 85) (v := ?_) (a' := ?_) #[true, false, true, true, false, true, false, false, false, false] rfl rfl (any_of HT_.out (by kernel_rfl)) (fun _ _ _ h => h) (Or.inl ⟨by rfl, ?_⟩) ?_ ?_
                      rotate_left
                      · intro w'
                        go_simp
                        with_reducible rfl
                      rotate_left
                      · simp only [Act.put, List.setIfInBounds_toArray, List.set_cons_zero, List.set_cons_succ, i64_w, i32_w]
                        rfl
                      refine take_ (i := 1) (N := some 81) (v := ?_) (a' := ?_) #[true, true, true, true, false, true, false, false, false, false] rfl rfl (take_ofW HT_.out HW_.out (by kernel_rfl)) (fun _ _ _ h => h) (Or.inl ⟨by rfl, ?_⟩) hHeld ?_ ?_
                      rotate_left
                      · rintro w' ⟨s0, s1, s2, s3, s4, s5, s6, s7⟩
                        go_simp
                        with_reducible rfl
                      rotate_left
                      · simp only [Act.put, List.setIfInBounds_toArray, List.set_cons_zero, List.set_cons_succ, i64_w, i32_w]
                        rfl
                      refine pure_ (i := 4) (N := some 84) (v := ?_) (a' := ?_) #[true, true, true, true, true, true, false, false, false, false] rfl rfl (any_of HT_.out (by kernel_rfl)) (fun _ _ _ h => h) (Or.inl ⟨by rfl, ?_⟩) ?_ ?_
                      rotate_left
                      · intro w'
                        go_simp
                        with_reducible rfl
                      rotate_left
                      · simp only [Act.put, List.setIfInBounds_toArray, List.set_cons_zero, List.set_cons_succ, i64_w, i32_w]
                        rfl
                      refine take_ (i := 6) (N := some 86) (v := ?_) (a' := ?_) #[true, true, true, true, true, true, true, false, false, false] rfl rfl (take_ofW HT_.out HW_.out (by kernel_rfl)) (fun _ _ _ h => h) (Or.inl ⟨by rfl, ?_⟩) hHeld ?_ ?_
                      rotate_left
                      · rintro w' ⟨s0, s1, s2, s3, s4, s5, s6, s7⟩
                        go_simp
                        with_reducible rfl
                      rotate_left
                      · simp only [Act.put, List.setIfInBounds_toArray, List.set_cons_zero, List.set_cons_succ, i64_w, i32_w]
                        rfl
                      refine one_ (i := 7) (N := none) #[true, true, true, true, true, true, true, true, false, false] rfl rfl (one_of HT_.out (by kernel_rfl)) (by decide) (fun K hK => ?_)
                      have hs67 : w66.cell? ⟨gb171, 0, none⟩ = some (.int .i64 x172000_1) := (blk_cell BK171.out 0).trans rfl
                      have hfs67 := blk_frozen BK171.out 0
                      have hns67_0 := NB170_171.out
                      have hns67_2 := NB179_171.out
                      have hms67_0 := NB171_170.out
                      have hms67_2 := NB171_179.out
                      have hs68 : w66.cell? ⟨gb171, 1, none⟩ = some (.int .i64 x172001_1) := (blk_cell BK171.out 1).trans rfl
                      have hfs68 := blk_frozen BK171.out 1
                      have hns68_0 := NB170_171.out
                      have hns68_2 := NB179_171.out
                      have hms68_0 := NB171_170.out
                      have hms68_2 := NB171_179.out
                      have hs69 : w66.cell? ⟨gb171, 2, none⟩ = some (.int .i64 x172002_1) := (blk_cell BK171.out 2).trans rfl
                      have hfs69 := blk_frozen BK171.out 2
                      have hns69_0 := NB170_171.out
                      have hns69_2 := NB179_171.out
                      have hms69_0 := NB171_170.out
                      have hms69_2 := NB171_179.out
                      refine skip_ (w1 := ?_) (by rfl) rfl ?_ ?_
                      rotate_left
                      · go_simp
                        rfl
                      refine hK.out _ _ ⟨((cell_far (p := ⟨gb171, _, none⟩) NB179_171.out _).trans (((cell_far (p := ⟨gb171, _, none⟩) NB179_171.out _).trans (((cell_far (p := ⟨gb171, _, none⟩) NB179_171.out _).trans (hHeld.1)))))), ((cell_far (p := ⟨gb171, _, none⟩) NB179_171.out _).trans (((cell_far (p := ⟨gb171, _, none⟩) NB179_171.out _).trans (((cell_far (p := ⟨gb171, _, none⟩) NB179_171.out _).trans (hHeld.2.1)))))), ((cell_far (p := ⟨gb171, _, none⟩) NB179_171.out _).trans (((cell_far (p := ⟨gb171, _, none⟩) NB179_171.out _).trans (((cell_far (p := ⟨gb171, _, none⟩) NB179_171.out _).trans (hHeld.2.2.1)))))), ((cell_far (p := ⟨gb171, _, none⟩) NB179_171.out _).trans (((cell_far (p := ⟨gb171, _, none⟩) NB179_171.out _).trans (((cell_far (p := ⟨gb171, _, none⟩) NB179_171.out _).trans (hHeld.2.2.2.1)))))), ((cell_far (p := ⟨gb171, _, none⟩) NB179_171.out _).trans (((cell_far (p := ⟨gb171, _, none⟩) NB179_171.out _).trans (((cell_far (p := ⟨gb171, _, none⟩) NB179_171.out _).trans (hHeld.2.2.2.2.1)))))), ((cell_far (p := ⟨gb171, _, none⟩) NB179_171.out _).trans (((cell_far (p := ⟨gb171, _, none⟩) NB179_171.out _).trans (((cell_far (p := ⟨gb171, _, none⟩) NB179_171.out _).trans (hHeld.2.2.2.2.2.1)))))), ((cell_far (p := ⟨gb171, _, none⟩) NB179_171.out _).trans (((cell_far (p := ⟨gb171, _, none⟩) NB179_171.out _).trans (((cell_far (p := ⟨gb171, _, none⟩) NB179_171.out _).trans (hHeld.2.2.2.2.2.2.1)))))), ((cell_far (p := ⟨gb171, _, none⟩) NB179_171.out _).trans (((cell_far (p := ⟨gb171, _, none⟩) NB179_171.out _).trans (((cell_far (p := ⟨gb171, _, none⟩) NB179_171.out _).trans (hHeld.2.2.2.2.2.2.2))))))⟩ (fun hHeld => ?_)
                      clear hK K
                      refine pure_ (i := 8) (N := some 9) (v := ?_) (a' := ?_) #[true, true, true, true, true, true, true, true, true, false] rfl rfl (any_of HT_.out (by kernel_rfl)) (fun _ _ _ h => h) (Or.inl ⟨by rfl, ?_⟩) ?_ ?_
                      rotate_left
                      · intro w'
                        go_simp
                        with_reducible rfl
                      rotate_left
                      · simp only [Act.put, List.setIfInBounds_toArray, List.set_cons_zero, List.set_cons_succ, i64_w, i32_w]
                        rfl
                      refine pure_ (i := 9) (N := some 10) (v := ?_) (a' := ?_) #[true, true, true, true, true, true, true, true, true, true] rfl rfl (any_of HT_.out (by kernel_rfl)) (fun _ _ _ h => h) (Or.inl ⟨by rfl, ?_⟩) ?_ ?_
                      rotate_left
                      · intro w'
                        go_simp
                        with_reducible rfl
                      rotate_left
                      · simp only [Act.put, List.setIfInBounds_toArray, List.set_cons_zero, List.set_cons_succ, i64_w, i32_w]
                        rfl
                      refine done_ (done_of HT_.out (by kernel_rfl)) ?_
                      try go_wp2
                      refine bodyPost_ret (results_ctt rfl _ _ gb171 56 #[.int .i64 ((rd_T65 t175 x36_1).f0), .int .i64 t180, .int .i64 t181] (0, 0) _ rfl (by (with_reducible repeat (first | refine blk_drewN ?_ _ | refine blk_drew ?_ | refine blk_alloc ?_ _)); refine blk_put (cs := #[.int .i64 ((rd_T65 t175 x36_1).f0), .int .i64 t180, .int .i64 x172002_1]) ?_ 2 _ rfl; (with_reducible repeat (first | refine blk_drewN ?_ _ | refine blk_drew ?_ | refine blk_alloc ?_ _)); refine blk_put (cs := #[.int .i64 ((rd_T65 t175 x36_1).f0), .int .i64 x172001_1, .int .i64 x172002_1]) ?_ 1 _ rfl; (with_reducible repeat (first | refine blk_drewN ?_ _ | refine blk_drew ?_ | refine blk_alloc ?_ _)); refine blk_put (cs := #[.int .i64 x172000_1, .int .i64 x172001_1, .int .i64 x172002_1]) ?_ 0 _ rfl; (with_reducible repeat (first | refine blk_drewN ?_ _ | refine blk_drew ?_ | refine blk_alloc ?_ _)); exact BK171.out) Try.underlying56 rfl (by kernel_rfl)) rfl ?_
                      exact ⟨by first | rfl | (simp [errW_none, errW_some] <;> rfl) | (simp [*, errW_none, errW_some] <;> rfl), by repeat (first | (with_reducible first | exact HB.out | apply below_alloc | apply pw_below_drewN | apply below_drew1 | refine below_set ?_ GE170.out | refine below_set ?_ GE171.out | refine below_set ?_ GE179.out) | exact HB.out)⟩
                · rw [if_neg c22] at H
                  have c22b0 : decide (t181 ≤ t183) = false := decide_eq_false c22
                  clear c22
                  have H' := Aside0.mk H
                  clear H
                  have p178 : 0 ≤ (x36_1 : Int) := of_decide_eq_true (by first | (with_reducible assumption) | assumption)
                  have q178 : x36_1 < (t175.length : Int) := of_decide_eq_true (by first | (with_reducible assumption) | assumption)
                  obtain ⟨ad178, e178, hx178_0, hx178_1, hx178_2, hx178_3, hx178_4, hx178_5, hx178_6, hx178_7⟩ := at_T65 (Kd.R_reads' HO_34.out).2.2 x36_1 p178 q178
                  cases e178
                  replace p178 := eq_true p178
                  replace q178 := eq_true q178
                  go_wp2_with (first | ((with_reducible refine gate_dst (N := 13) rfl ?_); refine box_event ?hg (N := 13) ?hd (cs := #[.int .i64 0, .int .i64 0, .int .i64 0, .int .i64 0, .int .i64 0, .int .i64 0, .int .i64 0, .int .i64 0]) (t := 65) ?hr ?_; (case hd => rfl); (case hg => rfl); (case hr => first | (go_simp; done) | (go_simp; rfl)); intro gb179 hg w70 hbox hb; have n0_ := Aside0.mk (Kd.R_below (by (with_reducible repeat (first | apply Kd.R_alloc | apply Kd.R_drewN | apply Kd.R_drew)); exact HO_11.out) hb); have n1_ := Aside0.mk (Kd.R_below (Kd.R_elderB (by (with_reducible repeat (first | apply Kd.R_alloc | apply Kd.R_drewN | apply Kd.R_drew)); exact HO_34.out) gb179 (Nat.le_of_eq hg.symm)) hb); have n2_ := Aside0.mk (blk_below (g := gb170) (o := .cells #[.slice A0_0 l0_0.length c0_0, .int .i64 a0_1, .int .i64 a0_2, .int .i64 a0_3, .slice A0_4 l0_4.length c0_4] 58 (0, 0)) (by (with_reducible repeat (first | refine blk_drewN ?_ _ | refine blk_drew ?_ | refine blk_alloc ?_ _)); exact BK170.out) hb); have n3_ := Aside0.mk (blk_below (g := gb171) (o := .cells #[.int .i64 x172000_1, .int .i64 x172001_1, .int .i64 x172002_1] 56 (0, 0)) (by (with_reducible repeat (first | refine blk_drewN ?_ _ | refine blk_drew ?_ | refine blk_alloc ?_ _)); exact BK171.out) hb); have n4_ := Aside0.mk (below_step (by repeat (first | (with_reducible first | exact HB.out | apply below_alloc | apply pw_below_drewN | apply below_drew1 | refine below_set ?_ GE170.out | refine below_set ?_ GE171.out) | exact HB.out)) hb); have n5_ := Aside0.mk (hbox); have n6_ := Aside0.mk ((by rw [hg]; exact (below_size (by repeat (first | (with_reducible first | exact HB.out | apply below_alloc | apply pw_below_drewN | apply below_drew1 | refine below_set ?_ GE170.out | refine below_set ?_ GE171.out) | exact HB.out))) : w.heap.size ≤ gb179)); have n7_ := Aside0.mk ((by rw [hg]; exact (below_size (by repeat (first | (with_reducible first | exact HB.out | apply below_alloc | apply pw_below_drewN | apply below_drew1 | refine below_set ?_ GE170.out | refine below_set ?_ GE171.out) | exact HB.out))) : w.heap.size ≤ gb179)); have n8_ := Aside0.mk ((by rw [hg]; exact Nat.ne_of_lt (blk_lt (g := gb170) (o := .cells #[.slice A0_0 l0_0.length c0_0, .int .i64 a0_1, .int .i64 a0_2, .int .i64 a0_3, .slice A0_4 l0_4.length c0_4] 58 (0, 0)) (by (with_reducible repeat (first | refine blk_drewN ?_ _ | refine blk_drew ?_ | refine blk_alloc ?_ _)); exact BK170.out)) : gb170 ≠ gb179)); have n9_ := Aside0.mk ((by rw [hg]; exact Nat.ne_of_gt (blk_lt (g := gb170) (o := .cells #[.slice A0_0 l0_0.length c0_0, .int .i64 a0_1, .int .i64 a0_2, .int .i64 a0_3, .slice A0_4 l0_4.length c0_4] 58 (0, 0)) (by (with_reducible repeat (first | refine blk_drewN ?_ _ | refine blk_drew ?_ | refine blk_alloc ?_ _)); exact BK170.out)) : gb179 ≠ gb170)); have n10_ := Aside0.mk ((by rw [hg]; exact Nat.ne_of_lt (blk_lt (g := gb171) (o := .cells #[.int .i64 x172000_1, .int .i64 x172001_1, .int .i64 x172002_1] 56 (0, 0)) (by (with_reducible repeat (first | refine blk_drewN ?_ _ | refine blk_drew ?_ | refine blk_alloc ?_ _)); exact BK171.out)) : gb171 ≠ gb179)); have n11_ := Aside0.mk ((by rw [hg]; exact Nat.ne_of_gt (blk_lt (g := gb171) (o := .cells #[.int .i64 x172000_1, .int .i64 x172001_1, .int .i64 x172002_1] 56 (0, 0)) (by (with_reducible repeat (first | refine blk_drewN ?_ _ | refine blk_drew ?_ | refine blk_alloc ?_ _)); exact BK171.out)) : gb179 ≠ gb171)); clear HO_11; clear HO_34; clear BK170; clear BK171; clear HB; have HO_11 := n0_; have HO_34 := n1_; have BK170 := n2_; have BK171 := n3_; have HB := n4_; have BK179 := n5_; have GW179 := n6_; have GE179 := n7_; have NB170_179 := n8_; have NB179_170 := n9_; have NB171_179 := n10_; have NB179_171 := n11_; clear n0_ n1_ n2_ n3_ n4_ n5_ n6_ n7_ n8_ n9_ n10_ n11_; clear hb hbox hg; have hnb71 := NB179_170.out; have hnc71 := NB170_179.out; have hnb72 := NB179_171.out; have hnc72 := NB171_179.out; have hcz73_0 : w70.cell? ⟨gb179, 0, none⟩ = some (.int .i64 0) := (blk_cell BK179.out 0).trans rfl; have hcz73_1 : w70.cell? ⟨gb179, 1, none⟩ = some (.int .i64 0) := (blk_cell BK179.out 1).trans rfl; have hcz73_2 : w70.cell? ⟨gb179, 2, none⟩ = some (.int .i64 0) := (blk_cell BK179.out 2).trans rfl; have hcz73_3 : w70.cell? ⟨gb179, 3, none⟩ = some (.int .i64 0) := (blk_cell BK179.out 3).trans rfl; have hcz73_4 : w70.cell? ⟨gb179, 4, none⟩ = some (.int .i64 0) := (blk_cell BK179.out 4).trans rfl; have hcz73_5 : w70.cell? ⟨gb179, 5, none⟩ = some (.int .i64 0) := (blk_cell BK179.out 5).trans rfl; have hcz73_6 : w70.cell? ⟨gb179, 6, none⟩ = some (.int .i64 0) := (blk_cell BK179.out 6).trans rfl; have hcz73_7 : w70.cell? ⟨gb179, 7, none⟩ = some (.int .i64 0) := (blk_cell BK179.out 7).trans rfl; have hfz73_0 := blk_frozen BK179.out 0; have hfz73_1 := blk_frozen BK179.out 1; have hfz73_2 := blk_frozen BK179.out 2; have hfz73_3 := blk_frozen BK179.out 3; have hfz73_4 := blk_frozen BK179.out 4; have hfz73_5 := blk_frozen BK179.out 5; have hfz73_6 := blk_frozen BK179.out 6; have hfz73_7 := blk_frozen BK179.out 7; have hnb74 := NB170_171.out; have hnc74 := NB171_170.out; have hcz75_0 : w70.cell? ⟨gb170, 0, none⟩ = some (.slice A0_0 l0_0.length c0_0) := (blk_cell BK170.out 0).trans rfl; have hcz75_1 : w70.cell? ⟨gb170, 1, none⟩ = some (.int .i64 a0_1) := (blk_cell BK170.out 1).trans rfl; have hcz75_2 : w70.cell? ⟨gb170, 2, none⟩ = some (.int .i64 a0_2) := (blk_cell BK170.out 2).trans rfl; have hcz75_3 : w70.cell? ⟨gb170, 3, none⟩ = some (.int .i64 a0_3) := (blk_cell BK170.out 3).trans rfl; have hcz75_4 : w70.cell? ⟨gb170, 4, none⟩ = some (.slice A0_4 l0_4.length c0_4) := (blk_cell BK170.out 4).trans rfl; have hfz75_0 := blk_frozen BK170.out 0; have hfz75_1 := blk_frozen BK170.out 1; have hfz75_2 := blk_frozen BK170.out 2; have hfz75_3 := blk_frozen BK170.out 3; have hfz75_4 := blk_frozen BK170.out 4) | ((with_reducible refine gate_callee (f := 46) rfl ?_); refine goesL_ (some 45) rfl rfl Try.func46 (by kernel_rfl) rfl #[.agg #[.int .i64 ((rd_T65 t175 x36_1).f0), .int .i64 ((rd_T65 t175 x36_1).f1), .int .i64 ((rd_T65 t175 x36_1).f2), .int .i64 ((rd_T65 t175 x36_1).f3), .int .i64 ((rd_T65 t175 x36_1).f4), .int .i64 ((rd_T65 t175 x36_1).f5), .int .i64 ((rd_T65 t175 x36_1).f6), .int .i64 ((rd_T65 t175 x36_1).f7)], .int .i64 a2, .int .i64 a0_2] rfl (by (try simp only [List.map_toArray, List.map_cons, List.map_nil]); first | done | rfl | (simp only [List.length_drop, List.length_take]; rfl)) ?_; (with_reducible refine (hop_Pass.calls k1 ((rd_T65 t175 x36_1).f0) ((rd_T65 t175 x36_1).f1) ((rd_T65 t175 x36_1).f2) ((rd_T65 t175 x36_1).f3) ((rd_T65 t175 x36_1).f4) ((rd_T65 t175 x36_1).f5) ((rd_T65 t175 x36_1).f6) ((rd_T65 t175 x36_1).f7) a2 a0_2 t180 t181 true _ A18.out).mono ?_); rintro e w76 ⟨rfl, hb⟩; refine ⟨_, rfl, ?_⟩; have n0_ := Aside0.mk (Kd.R_below (by (with_reducible repeat (first | apply Kd.R_alloc | apply Kd.R_drewN | apply Kd.R_drew)); exact (Kd.R_mono (Kd.R_far (p := ⟨gb179, 7, none⟩) (Kd.R_far (p := ⟨gb179, 6, none⟩) (Kd.R_far (p := ⟨gb179, 5, none⟩) (Kd.R_far (p := ⟨gb179, 4, none⟩) (Kd.R_far (p := ⟨gb179, 3, none⟩) (Kd.R_far (p := ⟨gb179, 2, none⟩) (Kd.R_far (p := ⟨gb179, 1, none⟩) (Kd.R_far (p := ⟨gb179, 0, none⟩) (Kd.R_types HO_11.out BK179.out (by decide)) (fun _ hk => hk.2) (.int .i64 ((rd_T65 t175 x36_1).f0))) (fun _ hk => hk.2) (.int .i64 ((rd_T65 t175 x36_1).f1))) (fun _ hk => hk.2) (.int .i64 ((rd_T65 t175 x36_1).f2))) (fun _ hk => hk.2) (.int .i64 ((rd_T65 t175 x36_1).f3))) (fun _ hk => hk.2) (.int .i64 ((rd_T65 t175 x36_1).f4))) (fun _ hk => hk.2) (.int .i64 ((rd_T65 t175 x36_1).f5))) (fun _ hk => hk.2) (.int .i64 ((rd_T65 t175 x36_1).f6))) (fun _ hk => hk.2) (.int .i64 ((rd_T65 t175 x36_1).f7))) (fun _ h_ => h_.1))) hb); have n1_ := Aside0.mk (Kd.R_below (by (with_reducible repeat (first | apply Kd.R_alloc | apply Kd.R_drewN | apply Kd.R_drew)); exact (Kd.R_mono (Kd.R_far (p := ⟨gb179, 7, none⟩) (Kd.R_far (p := ⟨gb179, 6, none⟩) (Kd.R_far (p := ⟨gb179, 5, none⟩) (Kd.R_far (p := ⟨gb179, 4, none⟩) (Kd.R_far (p := ⟨gb179, 3, none⟩) (Kd.R_far (p := ⟨gb179, 2, none⟩) (Kd.R_far (p := ⟨gb179, 1, none⟩) (Kd.R_far (p := ⟨gb179, 0, none⟩) (Kd.R_mono HO_34.out (fun k_ hk => (⟨hk, hk.2⟩ : _ ∧ k_ ≠ gb179))) (fun _ hk => hk.2) (.int .i64 ((rd_T65 t175 x36_1).f0))) (fun _ hk => hk.2) (.int .i64 ((rd_T65 t175 x36_1).f1))) (fun _ hk => hk.2) (.int .i64 ((rd_T65 t175 x36_1).f2))) (fun _ hk => hk.2) (.int .i64 ((rd_T65 t175 x36_1).f3))) (fun _ hk => hk.2) (.int .i64 ((rd_T65 t175 x36_1).f4))) (fun _ hk => hk.2) (.int .i64 ((rd_T65 t175 x36_1).f5))) (fun _ hk => hk.2) (.int .i64 ((rd_T65 t175 x36_1).f6))) (fun _ hk => hk.2) (.int .i64 ((rd_T65 t175 x36_1).f7))) (fun _ h_ => h_.1))) hb); have n2_ := Aside0.mk (blk_below (g := gb170) (o := .cells #[.slice A0_0 l0_0.length c0_0, .int .i64 a0_1, .int .i64 a0_2, .int .i64 a0_3, .slice A0_4 l0_4.length c0_4] 58 (0, 0)) (by (with_reducible repeat (first | refine blk_drewN ?_ _ | refine blk_drew ?_ | refine blk_alloc ?_ _)); refine blk_far ?_ NB170_179.out _; (with_reducible repeat (first | refine blk_drewN ?_ _ | refine blk_drew ?_ | refine blk_alloc ?_ _)); refine blk_far ?_ NB170_179.out _; (with_reducible repeat (first | refine blk_drewN ?_ _ | refine blk_drew ?_ | refine blk_alloc ?_ _)); refine blk_far ?_ NB170_179.out _; (with_reducible repeat (first | refine blk_drewN ?_ _ | refine blk_drew ?_ | refine blk_alloc ?_ _)); refine blk_far ?_ NB170_179.out _; (with_reducible repeat (first | refine blk_drewN ?_ _ | refine blk_drew ?_ | refine blk_alloc ?_ _)); refine blk_far ?_ NB170_179.out _; (with_reducible repeat (first | refine blk_drewN ?_ _ | refine blk_drew ?_ | refine blk_alloc ?_ _)); refine blk_far ?_ NB170_179.out _; (with_reducible repeat (first | refine blk_drewN ?_ _ | refine blk_drew ?_ | refine blk_alloc ?_ _)); refine blk_far ?_ NB170_179.out _; (with_reducible repeat (first | refine blk_drewN ?_ _ | refine blk_drew ?_ | refine blk_alloc ?_ _)); refine blk_far ?_ NB170_179.out _; (with_reducible repeat (first | refine blk_drewN ?_ _ | refine blk_drew ?_ | refine blk_alloc ?_ _)); exact BK170.out) hb); have n3_ := Aside0.mk (blk_below (g := gb171) (o := .cells #[.int .i64 x172000_1, .int .i64 x172001_1, .int .i64 x172002_1] 56 (0, 0)) (by (with_reducible repeat (first | refine blk_drewN ?_ _ | refine blk_drew ?_ | refine blk_alloc ?_ _)); refine blk_far ?_ NB171_179.out _; (with_reducible repeat (first | refine blk_drewN ?_ _ | refine blk_drew ?_ | refine blk_alloc ?_ _)); refine blk_far ?_ NB171_179.out _; (with_reducible repeat (first | refine blk_drewN ?_ _ | refine blk_drew ?_ | refine blk_alloc ?_ _)); refine blk_far ?_ NB171_179.out _; (with_reducible repeat (first | refine blk_drewN ?_ _ | refine blk_drew ?_ | refine blk_alloc ?_ _)); refine blk_far ?_ NB171_179.out _; (with_reducible repeat (first | refine blk_drewN ?_ _ | refine blk_drew ?_ | refine blk_alloc ?_ _)); refine blk_far ?_ NB171_179.out _; (with_reducible repeat (first | refine blk_drewN ?_ _ | refine blk_drew ?_ | refine blk_alloc ?_ _)); refine blk_far ?_ NB171_179.out _; (with_reducible repeat (first | refine blk_drewN ?_ _ | refine blk_drew ?_ | refine blk_alloc ?_ _)); refine blk_far ?_ NB171_179.out _; (with_reducible repeat (first | refine blk_drewN ?_ _ | refine blk_drew ?_ | refine blk_alloc ?_ _)); refine blk_far ?_ NB171_179.out _; (with_reducible repeat (first | refine blk_drewN ?_ _ | refine blk_drew ?_ | refine blk_alloc ?_ _)); exact BK171.out) hb); have n4_ := Aside0.mk (blk_below (g := gb179) (o := .cells #[.int .i64 ((rd_T65 t175 x36_1).f0), .int .i64 ((rd_T65 t175 x36_1).f1), .int .i64 ((rd_T65 t175 x36_1).f2), .int .i64 ((rd_T65 t175 x36_1).f3), .int .i64 ((rd_T65 t175 x36_1).f4), .int .i64 ((rd_T65 t175 x36_1).f5), .int .i64 ((rd_T65 t175 x36_1).f6), .int .i64 ((rd_T65 t175 x36_1).f7)] 65 (0, 0)) (by (with_reducible repeat (first | refine blk_drewN ?_ _ | refine blk_drew ?_ | refine blk_alloc ?_ _)); refine blk_put (cs := #[.int .i64 ((rd_T65 t175 x36_1).f0), .int .i64 ((rd_T65 t175 x36_1).f1), .int .i64 ((rd_T65 t175 x36_1).f2), .int .i64 ((rd_T65 t175 x36_1).f3), .int .i64 ((rd_T65 t175 x36_1).f4), .int .i64 ((rd_T65 t175 x36_1).f5), .int .i64 ((rd_T65 t175 x36_1).f6), .int .i64 0]) ?_ 7 _ rfl; (with_reducible repeat (first | refine blk_drewN ?_ _ | refine blk_drew ?_ | refine blk_alloc ?_ _)); refine blk_put (cs := #[.int .i64 ((rd_T65 t175 x36_1).f0), .int .i64 ((rd_T65 t175 x36_1).f1), .int .i64 ((rd_T65 t175 x36_1).f2), .int .i64 ((rd_T65 t175 x36_1).f3), .int .i64 ((rd_T65 t175 x36_1).f4), .int .i64 ((rd_T65 t175 x36_1).f5), .int .i64 0, .int .i64 0]) ?_ 6 _ rfl; (with_reducible repeat (first | refine blk_drewN ?_ _ | refine blk_drew ?_ | refine blk_alloc ?_ _)); refine blk_put (cs := #[.int .i64 ((rd_T65 t175 x36_1).f0), .int .i64 ((rd_T65 t175 x36_1).f1), .int .i64 ((rd_T65 t175 x36_1).f2), .int .i64 ((rd_T65 t175 x36_1).f3), .int .i64 ((rd_T65 t175 x36_1).f4), .int .i64 0, .int .i64 0, .int .i64 0]) ?_ 5 _ rfl; (with_reducible repeat (first | refine blk_drewN ?_ _ | refine blk_drew ?_ | refine blk_alloc ?_ _)); refine blk_put (cs := #[.int .i64 ((rd_T65 t175 x36_1).f0), .int .i64 ((rd_T65 t175 x36_1).f1), .int .i64 ((rd_T65 t175 x36_1).f2), .int .i64 ((rd_T65 t175 x36_1).f3), .int .i64 0, .int .i64 0, .int .i64 0, .int .i64 0]) ?_ 4 _ rfl; (with_reducible repeat (first | refine blk_drewN ?_ _ | refine blk_drew ?_ | refine blk_alloc ?_ _)); refine blk_put (cs := #[.int .i64 ((rd_T65 t175 x36_1).f0), .int .i64 ((rd_T65 t175 x36_1).f1), .int .i64 ((rd_T65 t175 x36_1).f2), .int .i64 0, .int .i64 0, .int .i64 0, .int .i64 0, .int .i64 0]) ?_ 3 _ rfl; (with_reducible repeat (first | refine blk_drewN ?_ _ | refine blk_drew ?_ | refine blk_alloc ?_ _)); refine blk_put (cs := #[.int .i64 ((rd_T65 t175 x36_1).f0), .int .i64 ((rd_T65 t175 x36_1).f1), .int .i64 0, .int .i64 0, .int .i64 0, .int .i64 0, .int .i64 0, .int .i64 0]) ?_ 2 _ rfl; (with_reducible repeat (first | refine blk_drewN ?_ _ | refine blk_drew ?_ | refine blk_alloc ?_ _)); refine blk_put (cs := #[.int .i64 ((rd_T65 t175 x36_1).f0), .int .i64 0, .int .i64 0, .int .i64 0, .int .i64 0, .int .i64 0, .int .i64 0, .int .i64 0]) ?_ 1 _ rfl; (with_reducible repeat (first | refine blk_drewN ?_ _ | refine blk_drew ?_ | refine blk_alloc ?_ _)); refine blk_put (cs := #[.int .i64 0, .int .i64 0, .int .i64 0, .int .i64 0, .int .i64 0, .int .i64 0, .int .i64 0, .int .i64 0]) ?_ 0 _ rfl; (with_reducible repeat (first | refine blk_drewN ?_ _ | refine blk_drew ?_ | refine blk_alloc ?_ _)); exact BK179.out) hb); have n5_ := Aside0.mk (below_step (by repeat (first | (with_reducible first | exact HB.out | apply below_alloc | apply pw_below_drewN | apply below_drew1 | refine below_set ?_ GE170.out | refine below_set ?_ GE171.out | refine below_set ?_ GE179.out) | exact HB.out)) hb); clear HO_11; clear HO_34; clear BK170; clear BK171; clear BK179; clear HB; have HO_11 := n0_; have HO_34 := n1_; have BK170 := n2_; have BK171 := n3_; have BK179 := n4_; have HB := n5_; clear n0_ n1_ n2_ n3_ n4_ n5_; (try clear hb); (try clear hb2); (try clear hk); (try clear hi); have hcz77_0 : w76.cell? ⟨gb179, 0, none⟩ = some (.int .i64 ((rd_T65 t175 x36_1).f0)) := (blk_cell BK179.out 0).trans rfl; have hcz77_1 : w76.cell? ⟨gb179, 1, none⟩ = some (.int .i64 ((rd_T65 t175 x36_1).f1)) := (blk_cell BK179.out 1).trans rfl; have hcz77_2 : w76.cell? ⟨gb179, 2, none⟩ = some (.int .i64 ((rd_T65 t175 x36_1).f2)) := (blk_cell BK179.out 2).trans rfl; have hcz77_3 : w76.cell? ⟨gb179, 3, none⟩ = some (.int .i64 ((rd_T65 t175 x36_1).f3)) := (blk_cell BK179.out 3).trans rfl; have hcz77_4 : w76.cell? ⟨gb179, 4, none⟩ = some (.int .i64 ((rd_T65 t175 x36_1).f4)) := (blk_cell BK179.out 4).trans rfl; have hcz77_5 : w76.cell? ⟨gb179, 5, none⟩ = some (.int .i64 ((rd_T65 t175 x36_1).f5)) := (blk_cell BK179.out 5).trans rfl; have hcz77_6 : w76.cell? ⟨gb179, 6, none⟩ = some (.int .i64 ((rd_T65 t175 x36_1).f6)) := (blk_cell BK179.out 6).trans rfl; have hcz77_7 : w76.cell? ⟨gb179, 7, none⟩ = some (.int .i64 ((rd_T65 t175 x36_1).f7)) := (blk_cell BK179.out 7).trans rfl; have hfz77_0 := blk_frozen BK179.out 0; have hfz77_1 := blk_frozen BK179.out 1; have hfz77_2 := blk_frozen BK179.out 2; have hfz77_3 := blk_frozen BK179.out 3; have hfz77_4 := blk_frozen BK179.out 4; have hfz77_5 := blk_frozen BK179.out 5; have hfz77_6 := blk_frozen BK179.out 6; have hfz77_7 := blk_frozen BK179.out 7; obtain ⟨Ao78, co78, eo78⟩ := Kd.R_slice HO_11.out; subst eo78) | ((with_reducible refine gate_callee (f := 20) rfl ?_); refine goesL_ (some 53) rfl rfl Try.func20 (by kernel_rfl) rfl #[.slice Ao78 t172.length co78, .int .i64 ((rd_T65 t175 x36_1).f2)] rfl (by (try simp only [List.map_toArray, List.map_cons, List.map_nil]); first | done | rfl | (simp only [List.length_drop, List.length_take]; rfl)) ?_; (with_reducible refine (early_At.calls k1 _ _ t172 ((rd_T65 t175 x36_1).f2) t183 true _ ?side1 ?side2 A19.out).mono ?_); (case side1 => repeat (first | exact (Kd.R_reads' HO_11.out).2.2 | (with_reducible refine Kd.C_alloc ?_ _) | (with_reducible refine Kd.C_drewN ?_ _) | (with_reducible refine Kd.C_drew ?_))); (case side2 => exact (Kd.R_reads' HO_11.out).2.1); rintro e w79 ⟨rfl, hb⟩; refine ⟨_, rfl, ?_⟩; have n0_ := Aside0.mk (Kd.R_below (by (with_reducible repeat (first | apply Kd.R_alloc | apply Kd.R_drewN | apply Kd.R_drew)); exact HO_11.out) hb); have n1_ := Aside0.mk (Kd.R_below (by (with_reducible repeat (first | apply Kd.R_alloc | apply Kd.R_drewN | apply Kd.R_drew)); exact HO_34.out) hb); have n2_ := Aside0.mk (blk_below (g := gb170) (o := .cells #[.slice A0_0 l0_0.length c0_0, .int .i64 a0_1, .int .i64 a0_2, .int .i64 a0_3, .slice A0_4 l0_4.length c0_4] 58 (0, 0)) (by (with_reducible repeat (first | refine blk_drewN ?_ _ | refine blk_drew ?_ | refine blk_alloc ?_ _)); exact BK170.out) hb); have n3_ := Aside0.mk (blk_below (g := gb171) (o := .cells #[.int .i64 x172000_1, .int .i64 x172001_1, .int .i64 x172002_1] 56 (0, 0)) (by (with_reducible repeat (first | refine blk_drewN ?_ _ | refine blk_drew ?_ | refine blk_alloc ?_ _)); exact BK171.out) hb); have n4_ := Aside0.mk (blk_below (g := gb179) (o := .cells #[.int .i64 ((rd_T65 t175 x36_1).f0), .int .i64 ((rd_T65 t175 x36_1).f1), .int .i64 ((rd_T65 t175 x36_1).f2), .int .i64 ((rd_T65 t175 x36_1).f3), .int .i64 ((rd_T65 t175 x36_1).f4), .int .i64 ((rd_T65 t175 x36_1).f5), .int .i64 ((rd_T65 t175 x36_1).f6), .int .i64 ((rd_T65 t175 x36_1).f7)] 65 (0, 0)) (by (with_reducible repeat (first | refine blk_drewN ?_ _ | refine blk_drew ?_ | refine blk_alloc ?_ _)); exact BK179.out) hb); have n5_ := Aside0.mk (below_step (by repeat (first | (with_reducible first | exact HB.out | apply below_alloc | apply pw_below_drewN | apply below_drew1 | refine below_set ?_ GE170.out | refine below_set ?_ GE171.out | refine below_set ?_ GE179.out) | exact HB.out)) hb); clear HO_11; clear HO_34; clear BK170; clear BK171; clear BK179; clear HB; have HO_11 := n0_; have HO_34 := n1_; have BK170 := n2_; have BK171 := n3_; have BK179 := n4_; have HB := n5_; clear n0_ n1_ n2_ n3_ n4_ n5_; (try clear hb); (try clear hb2); (try clear hk); (try clear hi)))
                  go_roundg k1
                  case measure => have := HK1.out; omega
                  case rel => exact ⟨(wrap64 (x36_1 + 1)), (x172000_1), (x172001_1), (x172002_1), (by first | rfl | (simp; done) | (simp [*]; done)), H', ⟨by have := HK1.out; omega⟩, ⟨by (with_reducible repeat (first | apply Kd.R_alloc | apply Kd.R_drewN | apply Kd.R_drew)); exact HO_11.out⟩, ⟨by (with_reducible repeat (first | apply Kd.R_alloc | apply Kd.R_drewN | apply Kd.R_drew)); exact Kd.R_mono HO_34.out (fun _ hk => trivial)⟩, ⟨by (with_reducible repeat (first | refine blk_drewN ?_ _ | refine blk_drew ?_ | refine blk_alloc ?_ _)); exact BK170.out⟩, ⟨by (with_reducible repeat (first | refine blk_drewN ?_ _ | refine blk_drew ?_ | refine blk_alloc ?_ _)); exact BK171.out⟩, ⟨by repeat (first | (with_reducible first | exact HB.out | apply below_alloc | apply pw_below_drewN | apply below_drew1 | refine below_set ?_ GE170.out | refine below_set ?_ GE171.out | refine below_set ?_ GE179.out) | exact HB.out)⟩⟩
              · replace c21 := Bool.eq_false_iff.mpr c21
                subst c21
                have H1 : (least_search_next.l0 k1 a2 t172 t175 (t175.length : Int) (wrap64 (x36_1 + 1)) l0_0 a0_1 a0_2 a0_3 l0_4) = some (r1, r2, r3, r4, r5) := by rw [if_neg (show ¬ (false = true) by decide)] at H; exact H
                clear H
                have H := H1
                clear H1
                have H' := Aside0.mk H
                clear H
                have p178 : 0 ≤ (x36_1 : Int) := of_decide_eq_true (by first | (with_reducible assumption) | assumption)
                have q178 : x36_1 < (t175.length : Int) := of_decide_eq_true (by first | (with_reducible assumption) | assumption)
                obtain ⟨ad178, e178, hx178_0, hx178_1, hx178_2, hx178_3, hx178_4, hx178_5, hx178_6, hx178_7⟩ := at_T65 (Kd.R_reads' HO_34.out).2.2 x36_1 p178 q178
                cases e178
                replace p178 := eq_true p178
                replace q178 := eq_true q178
                go_wp2_with (first | ((with_reducible refine gate_dst (N := 13) rfl ?_); refine box_event ?hg (N := 13) ?hd (cs := #[.int .i64 0, .int .i64 0, .int .i64 0, .int .i64 0, .int .i64 0, .int .i64 0, .int .i64 0, .int .i64 0]) (t := 65) ?hr ?_; (case hd => rfl); (case hg => rfl); (case hr => first | (go_simp; done) | (go_simp; rfl)); intro gb179 hg w80 hbox hb; have n0_ := Aside0.mk (Kd.R_below (by (with_reducible repeat (first | apply Kd.R_alloc | apply Kd.R_drewN | apply Kd.R_drew)); exact HO_11.out) hb); have n1_ := Aside0.mk (Kd.R_below (Kd.R_elderB (by (with_reducible repeat (first | apply Kd.R_alloc | apply Kd.R_drewN | apply Kd.R_drew)); exact HO_34.out) gb179 (Nat.le_of_eq hg.symm)) hb); have n2_ := Aside0.mk (blk_below (g := gb170) (o := .cells #[.slice A0_0 l0_0.length c0_0, .int .i64 a0_1, .int .i64 a0_2, .int .i64 a0_3, .slice A0_4 l0_4.length c0_4] 58 (0, 0)) (by (with_reducible repeat (first | refine blk_drewN ?_ _ | refine blk_drew ?_ | refine blk_alloc ?_ _)); exact BK170.out) hb); have n3_ := Aside0.mk (blk_below (g := gb171) (o := .cells #[.int .i64 x172000_1, .int .i64 x172001_1, .int .i64 x172002_1] 56 (0, 0)) (by (with_reducible repeat (first | refine blk_drewN ?_ _ | refine blk_drew ?_ | refine blk_alloc ?_ _)); exact BK171.out) hb); have n4_ := Aside0.mk (below_step (by repeat (first | (with_reducible first | exact HB.out | apply below_alloc | apply pw_below_drewN | apply below_drew1 | refine below_set ?_ GE170.out | refine below_set ?_ GE171.out) | exact HB.out)) hb); have n5_ := Aside0.mk (hbox); have n6_ := Aside0.mk ((by rw [hg]; exact (below_size (by repeat (first | (with_reducible first | exact HB.out | apply below_alloc | apply pw_below_drewN | apply below_drew1 | refine below_set ?_ GE170.out | refine below_set ?_ GE171.out) | exact HB.out))) : w.heap.size ≤ gb179)); have n7_ := Aside0.mk ((by rw [hg]; exact (below_size (by repeat (first | (with_reducible first | exact HB.out | apply below_alloc | apply pw_below_drewN | apply below_drew1 | refine below_set ?_ GE170.out | refine below_set ?_ GE171.out) | exact HB.out))) : w.heap.size ≤ gb179)); have n8_ := Aside0.mk ((by rw [hg]; exact Nat.ne_of_lt (blk_lt (g := gb170) (o := .cells #[.slice A0_0 l0_0.length c0_0, .int .i64 a0_1, .int .i64 a0_2, .int .i64 a0_3, .slice A0_4 l0_4.length c0_4] 58 (0, 0)) (by (with_reducible repeat (first | refine blk_drewN ?_ _ | refine blk_drew ?_ | refine blk_alloc ?_ _)); exact BK170.out)) : gb170 ≠ gb179)); have n9_ := Aside0.mk ((by rw [hg]; exact Nat.ne_of_gt (blk_lt (g := gb170) (o := .cells #[.slice A0_0 l0_0.length c0_0, .int .i64 a0_1, .int .i64 a0_2, .int .i64 a0_3, .slice A0_4 l0_4.length c0_4] 58 (0, 0)) (by (with_reducible repeat (first | refine blk_drewN ?_ _ | refine blk_drew ?_ | refine blk_alloc ?_ _)); exact BK170.out)) : gb179 ≠ gb170)); have n10_ := Aside0.mk ((by rw [hg]; exact Nat.ne_of_lt (blk_lt (g := gb171) (o := .cells #[.int .i64 x172000_1, .int .i64 x172001_1, .int .i64 x172002_1] 56 (0, 0)) (by (with_reducible repeat (first | refine blk_drewN ?_ _ | refine blk_drew ?_ | refine blk_alloc ?_ _)); exact BK171.out)) : gb171 ≠ gb179)); have n11_ := Aside0.mk ((by rw [hg]; exact Nat.ne_of_gt (blk_lt (g := gb171) (o := .cells #[.int .i64 x172000_1, .int .i64 x172001_1, .int .i64 x172002_1] 56 (0, 0)) (by (with_reducible repeat (first | refine blk_drewN ?_ _ | refine blk_drew ?_ | refine blk_alloc ?_ _)); exact BK171.out)) : gb179 ≠ gb171)); clear HO_11; clear HO_34; clear BK170; clear BK171; clear HB; have HO_11 := n0_; have HO_34 := n1_; have BK170 := n2_; have BK171 := n3_; have HB := n4_; have BK179 := n5_; have GW179 := n6_; have GE179 := n7_; have NB170_179 := n8_; have NB179_170 := n9_; have NB171_179 := n10_; have NB179_171 := n11_; clear n0_ n1_ n2_ n3_ n4_ n5_ n6_ n7_ n8_ n9_ n10_ n11_; clear hb hbox hg; have hnb81 := NB179_170.out; have hnc81 := NB170_179.out; have hnb82 := NB179_171.out; have hnc82 := NB171_179.out; have hcz83_0 : w80.cell? ⟨gb179, 0, none⟩ = some (.int .i64 0) := (blk_cell BK179.out 0).trans rfl; have hcz83_1 : w80.cell? ⟨gb179, 1, none⟩ = some (.int .i64 0) := (blk_cell BK179.out 1).trans rfl; have hcz83_2 : w80.cell? ⟨gb179, 2, none⟩ = some (.int .i64 0) := (blk_cell BK179.out 2).trans rfl; have hcz83_3 : w80.cell? ⟨gb179, 3, none⟩ = some (.int .i64 0) := (blk_cell BK179.out 3).trans rfl; have hcz83_4 : w80.cell? ⟨gb179, 4, none⟩ = some (.int .i64 0) := (blk_cell BK179.out 4).trans rfl; have hcz83_5 : w80.cell? ⟨gb179, 5, none⟩ = some (.int .i64 0) := (blk_cell BK179.out 5).trans rfl; have hcz83_6 : w80.cell? ⟨gb179, 6, none⟩ = some (.int .i64 0) := (blk_cell BK179.out 6).trans rfl; have hcz83_7 : w80.cell? ⟨gb179, 7, none⟩ = some (.int .i64 0) := (blk_cell BK179.out 7).trans rfl; have hfz83_0 := blk_frozen BK179.out 0; have hfz83_1 := blk_frozen BK179.out 1; have hfz83_2 := blk_frozen BK179.out 2; have hfz83_3 := blk_frozen BK179.out 3; have hfz83_4 := blk_frozen BK179.out 4; have hfz83_5 := blk_frozen BK179.out 5; have hfz83_6 := blk_frozen BK179.out 6; have hfz83_7 := blk_frozen BK179.out 7; have hnb84 := NB170_171.out; have hnc84 := NB171_170.out; have hcz85_0 : w80.cell? ⟨gb170, 0, none⟩ = some (.slice A0_0 l0_0.length c0_0) := (blk_cell BK170.out 0).trans rfl; have hcz85_1 : w80.cell? ⟨gb170, 1, none⟩ = some (.int .i64 a0_1) := (blk_cell BK170.out 1).trans rfl; have hcz85_2 : w80.cell? ⟨gb170, 2, none⟩ = some (.int .i64 a0_2) := (blk_cell BK170.out 2).trans rfl; have hcz85_3 : w80.cell? ⟨gb170, 3, none⟩ = some (.int .i64 a0_3) := (blk_cell BK170.out 3).trans rfl; have hcz85_4 : w80.cell? ⟨gb170, 4, none⟩ = some (.slice A0_4 l0_4.length c0_4) := (blk_cell BK170.out 4).trans rfl; have hfz85_0 := blk_frozen BK170.out 0; have hfz85_1 := blk_frozen BK170.out 1; have hfz85_2 := blk_frozen BK170.out 2; have hfz85_3 := blk_frozen BK170.out 3; have hfz85_4 := blk_frozen BK170.out 4) | ((with_reducible refine gate_callee (f := 46) rfl ?_); refine goesL_ (some 45) rfl rfl Try.func46 (by kernel_rfl) rfl #[.agg #[.int .i64 ((rd_T65 t175 x36_1).f0), .int .i64 ((rd_T65 t175 x36_1).f1), .int .i64 ((rd_T65 t175 x36_1).f2), .int .i64 ((rd_T65 t175 x36_1).f3), .int .i64 ((rd_T65 t175 x36_1).f4), .int .i64 ((rd_T65 t175 x36_1).f5), .int .i64 ((rd_T65 t175 x36_1).f6), .int .i64 ((rd_T65 t175 x36_1).f7)], .int .i64 a2, .int .i64 a0_2] rfl (by (try simp only [List.map_toArray, List.map_cons, List.map_nil]); first | done | rfl | (simp only [List.length_drop, List.length_take]; rfl)) ?_; (with_reducible refine (hop_Pass.calls k1 ((rd_T65 t175 x36_1).f0) ((rd_T65 t175 x36_1).f1) ((rd_T65 t175 x36_1).f2) ((rd_T65 t175 x36_1).f3) ((rd_T65 t175 x36_1).f4) ((rd_T65 t175 x36_1).f5) ((rd_T65 t175 x36_1).f6) ((rd_T65 t175 x36_1).f7) a2 a0_2 t180 t181 true _ A18.out).mono ?_); rintro e w86 ⟨rfl, hb⟩; refine ⟨_, rfl, ?_⟩; have n0_ := Aside0.mk (Kd.R_below (by (with_reducible repeat (first | apply Kd.R_alloc | apply Kd.R_drewN | apply Kd.R_drew)); exact (Kd.R_mono (Kd.R_far (p := ⟨gb179, 7, none⟩) (Kd.R_far (p := ⟨gb179, 6, none⟩) (Kd.R_far (p := ⟨gb179, 5, none⟩) (Kd.R_far (p := ⟨gb179, 4, none⟩) (Kd.R_far (p := ⟨gb179, 3, none⟩) (Kd.R_far (p := ⟨gb179, 2, none⟩) (Kd.R_far (p := ⟨gb179, 1, none⟩) (Kd.R_far (p := ⟨gb179, 0, none⟩) (Kd.R_types HO_11.out BK179.out (by decide)) (fun _ hk => hk.2) (.int .i64 ((rd_T65 t175 x36_1).f0))) (fun _ hk => hk.2) (.int .i64 ((rd_T65 t175 x36_1).f1))) (fun _ hk => hk.2) (.int .i64 ((rd_T65 t175 x36_1).f2))) (fun _ hk => hk.2) (.int .i64 ((rd_T65 t175 x36_1).f3))) (fun _ hk => hk.2) (.int .i64 ((rd_T65 t175 x36_1).f4))) (fun _ hk => hk.2) (.int .i64 ((rd_T65 t175 x36_1).f5))) (fun _ hk => hk.2) (.int .i64 ((rd_T65 t175 x36_1).f6))) (fun _ hk => hk.2) (.int .i64 ((rd_T65 t175 x36_1).f7))) (fun _ h_ => h_.1))) hb); have n1_ := Aside0.mk (Kd.R_below (by (with_reducible repeat (first | apply Kd.R_alloc | apply Kd.R_drewN | apply Kd.R_drew)); exact (Kd.R_mono (Kd.R_far (p := ⟨gb179, 7, none⟩) (Kd.R_far (p := ⟨gb179, 6, none⟩) (Kd.R_far (p := ⟨gb179, 5, none⟩) (Kd.R_far (p := ⟨gb179, 4, none⟩) (Kd.R_far (p := ⟨gb179, 3, none⟩) (Kd.R_far (p := ⟨gb179, 2, none⟩) (Kd.R_far (p := ⟨gb179, 1, none⟩) (Kd.R_far (p := ⟨gb179, 0, none⟩) (Kd.R_mono HO_34.out (fun k_ hk => (⟨hk, hk.2⟩ : _ ∧ k_ ≠ gb179))) (fun _ hk => hk.2) (.int .i64 ((rd_T65 t175 x36_1).f0))) (fun _ hk => hk.2) (.int .i64 ((rd_T65 t175 x36_1).f1))) (fun _ hk => hk.2) (.int .i64 ((rd_T65 t175 x36_1).f2))) (fun _ hk => hk.2) (.int .i64 ((rd_T65 t175 x36_1).f3))) (fun _ hk => hk.2) (.int .i64 ((rd_T65 t175 x36_1).f4))) (fun _ hk => hk.2) (.int .i64 ((rd_T65 t175 x36_1).f5))) (fun _ hk => hk.2) (.int .i64 ((rd_T65 t175 x36_1).f6))) (fun _ hk => hk.2) (.int .i64 ((rd_T65 t175 x36_1).f7))) (fun _ h_ => h_.1))) hb); have n2_ := Aside0.mk (blk_below (g := gb170) (o := .cells #[.slice A0_0 l0_0.length c0_0, .int .i64 a0_1, .int .i64 a0_2, .int .i64 a0_3, .slice A0_4 l0_4.length c0_4] 58 (0, 0)) (by (with_reducible repeat (first | refine blk_drewN ?_ _ | refine blk_drew ?_ | refine blk_alloc ?_ _)); refine blk_far ?_ NB170_179.out _; (with_reducible repeat (first | refine blk_drewN ?_ _ | refine blk_drew ?_ | refine blk_alloc ?_ _)); refine blk_far ?_ NB170_179.out _; (with_reducible repeat (first | refine blk_drewN ?_ _ | refine blk_drew ?_ | refine blk_alloc ?_ _)); refine blk_far ?_ NB170_179.out _; (with_reducible repeat (first | refine blk_drewN ?_ _ | refine blk_drew ?_ | refine blk_alloc ?_ _)); refine blk_far ?_ NB170_179.out _; (with_reducible repeat (first | refine blk_drewN ?_ _ | refine blk_drew ?_ | refine blk_alloc ?_ _)); refine blk_far ?_ NB170_179.out _; (with_reducible repeat (first | refine blk_drewN ?_ _ | refine blk_drew ?_ | refine blk_alloc ?_ _)); refine blk_far ?_ NB170_179.out _; (with_reducible repeat (first | refine blk_drewN ?_ _ | refine blk_drew ?_ | refine blk_alloc ?_ _)); refine blk_far ?_ NB170_179.out _; (with_reducible repeat (first | refine blk_drewN ?_ _ | refine blk_drew ?_ | refine blk_alloc ?_ _)); refine blk_far ?_ NB170_179.out _; (with_reducible repeat (first | refine blk_drewN ?_ _ | refine blk_drew ?_ | refine blk_alloc ?_ _)); exact BK170.out) hb); have n3_ := Aside0.mk (blk_below (g := gb171) (o := .cells #[.int .i64 x172000_1, .int .i64 x172001_1, .int .i64 x172002_1] 56 (0, 0)) (by (with_reducible repeat (first | refine blk_drewN ?_ _ | refine blk_drew ?_ | refine blk_alloc ?_ _)); refine blk_far ?_ NB171_179.out _; (with_reducible repeat (first | refine blk_drewN ?_ _ | refine blk_drew ?_ | refine blk_alloc ?_ _)); refine blk_far ?_ NB171_179.out _; (with_reducible repeat (first | refine blk_drewN ?_ _ | refine blk_drew ?_ | refine blk_alloc ?_ _)); refine blk_far ?_ NB171_179.out _; (with_reducible repeat (first | refine blk_drewN ?_ _ | refine blk_drew ?_ | refine blk_alloc ?_ _)); refine blk_far ?_ NB171_179.out _; (with_reducible repeat (first | refine blk_drewN ?_ _ | refine blk_drew ?_ | refine blk_alloc ?_ _)); refine blk_far ?_ NB171_179.out _; (with_reducible repeat (first | refine blk_drewN ?_ _ | refine blk_drew ?_ | refine blk_alloc ?_ _)); refine blk_far ?_ NB171_179.out _; (with_reducible repeat (first | refine blk_drewN ?_ _ | refine blk_drew ?_ | refine blk_alloc ?_ _)); refine blk_far ?_ NB171_179.out _; (with_reducible repeat (first | refine blk_drewN ?_ _ | refine blk_drew ?_ | refine blk_alloc ?_ _)); refine blk_far ?_ NB171_179.out _; (with_reducible repeat (first | refine blk_drewN ?_ _ | refine blk_drew ?_ | refine blk_alloc ?_ _)); exact BK171.out) hb); have n4_ := Aside0.mk (blk_below (g := gb179) (o := .cells #[.int .i64 ((rd_T65 t175 x36_1).f0), .int .i64 ((rd_T65 t175 x36_1).f1), .int .i64 ((rd_T65 t175 x36_1).f2), .int .i64 ((rd_T65 t175 x36_1).f3), .int .i64 ((rd_T65 t175 x36_1).f4), .int .i64 ((rd_T65 t175 x36_1).f5), .int .i64 ((rd_T65 t175 x36_1).f6), .int .i64 ((rd_T65 t175 x36_1).f7)] 65 (0, 0)) (by (with_reducible repeat (first | refine blk_drewN ?_ _ | refine blk_drew ?_ | refine blk_alloc ?_ _)); refine blk_put (cs := #[.int .i64 ((rd_T65 t175 x36_1).f0), .int .i64 ((rd_T65 t175 x36_1).f1), .int .i64 ((rd_T65 t175 x36_1).f2), .int .i64 ((rd_T65 t175 x36_1).f3), .int .i64 ((rd_T65 t175 x36_1).f4), .int .i64 ((rd_T65 t175 x36_1).f5), .int .i64 ((rd_T65 t175 x36_1).f6), .int .i64 0]) ?_ 7 _ rfl; (with_reducible repeat (first | refine blk_drewN ?_ _ | refine blk_drew ?_ | refine blk_alloc ?_ _)); refine blk_put (cs := #[.int .i64 ((rd_T65 t175 x36_1).f0), .int .i64 ((rd_T65 t175 x36_1).f1), .int .i64 ((rd_T65 t175 x36_1).f2), .int .i64 ((rd_T65 t175 x36_1).f3), .int .i64 ((rd_T65 t175 x36_1).f4), .int .i64 ((rd_T65 t175 x36_1).f5), .int .i64 0, .int .i64 0]) ?_ 6 _ rfl; (with_reducible repeat (first | refine blk_drewN ?_ _ | refine blk_drew ?_ | refine blk_alloc ?_ _)); refine blk_put (cs := #[.int .i64 ((rd_T65 t175 x36_1).f0), .int .i64 ((rd_T65 t175 x36_1).f1), .int .i64 ((rd_T65 t175 x36_1).f2), .int .i64 ((rd_T65 t175 x36_1).f3), .int .i64 ((rd_T65 t175 x36_1).f4), .int .i64 0, .int .i64 0, .int .i64 0]) ?_ 5 _ rfl; (with_reducible repeat (first | refine blk_drewN ?_ _ | refine blk_drew ?_ | refine blk_alloc ?_ _)); refine blk_put (cs := #[.int .i64 ((rd_T65 t175 x36_1).f0), .int .i64 ((rd_T65 t175 x36_1).f1), .int .i64 ((rd_T65 t175 x36_1).f2), .int .i64 ((rd_T65 t175 x36_1).f3), .int .i64 0, .int .i64 0, .int .i64 0, .int .i64 0]) ?_ 4 _ rfl; (with_reducible repeat (first | refine blk_drewN ?_ _ | refine blk_drew ?_ | refine blk_alloc ?_ _)); refine blk_put (cs := #[.int .i64 ((rd_T65 t175 x36_1).f0), .int .i64 ((rd_T65 t175 x36_1).f1), .int .i64 ((rd_T65 t175 x36_1).f2), .int .i64 0, .int .i64 0, .int .i64 0, .int .i64 0, .int .i64 0]) ?_ 3 _ rfl; (with_reducible repeat (first | refine blk_drewN ?_ _ | refine blk_drew ?_ | refine blk_alloc ?_ _)); refine blk_put (cs := #[.int .i64 ((rd_T65 t175 x36_1).f0), .int .i64 ((rd_T65 t175 x36_1).f1), .int .i64 0, .int .i64 0, .int .i64 0, .int .i64 0, .int .i64 0, .int .i64 0]) ?_ 2 _ rfl; (with_reducible repeat (first | refine blk_drewN ?_ _ | refine blk_drew ?_ | refine blk_alloc ?_ _)); refine blk_put (cs := #[.int .i64 ((rd_T65 t175 x36_1).f0), .int .i64 0, .int .i64 0, .int .i64 0, .int .i64 0, .int .i64 0, .int .i64 0, .int .i64 0]) ?_ 1 _ rfl; (with_reducible repeat (first | refine blk_drewN ?_ _ | refine blk_drew ?_ | refine blk_alloc ?_ _)); refine blk_put (cs := #[.int .i64 0, .int .i64 0, .int .i64 0, .int .i64 0, .int .i64 0, .int .i64 0, .int .i64 0, .int .i64 0]) ?_ 0 _ rfl; (with_reducible repeat (first | refine blk_drewN ?_ _ | refine blk_drew ?_ | refine blk_alloc ?_ _)); exact BK179.out) hb); have n5_ := Aside0.mk (below_step (by repeat (first | (with_reducible first | exact HB.out | apply below_alloc | apply pw_below_drewN | apply below_drew1 | refine below_set ?_ GE170.out | refine below_set ?_ GE171.out | refine below_set ?_ GE179.out) | exact HB.out)) hb); clear HO_11; clear HO_34; clear BK170; clear BK171; clear BK179; clear HB; have HO_11 := n0_; have HO_34 := n1_; have BK170 := n2_; have BK171 := n3_; have BK179 := n4_; have HB := n5_; clear n0_ n1_ n2_ n3_ n4_ n5_; (try clear hb); (try clear hb2); (try clear hk); (try clear hi); have hcz87_0 : w86.cell? ⟨gb179, 0, none⟩ = some (.int .i64 ((rd_T65 t175 x36_1).f0)) := (blk_cell BK179.out 0).trans rfl; have hcz87_1 : w86.cell? ⟨gb179, 1, none⟩ = some (.int .i64 ((rd_T65 t175 x36_1).f1)) := (blk_cell BK179.out 1).trans rfl; have hcz87_2 : w86.cell? ⟨gb179, 2, none⟩ = some (.int .i64 ((rd_T65 t175 x36_1).f2)) := (blk_cell BK179.out 2).trans rfl; have hcz87_3 : w86.cell? ⟨gb179, 3, none⟩ = some (.int .i64 ((rd_T65 t175 x36_1).f3)) := (blk_cell BK179.out 3).trans rfl; have hcz87_4 : w86.cell? ⟨gb179, 4, none⟩ = some (.int .i64 ((rd_T65 t175 x36_1).f4)) := (blk_cell BK179.out 4).trans rfl; have hcz87_5 : w86.cell? ⟨gb179, 5, none⟩ = some (.int .i64 ((rd_T65 t175 x36_1).f5)) := (blk_cell BK179.out 5).trans rfl; have hcz87_6 : w86.cell? ⟨gb179, 6, none⟩ = some (.int .i64 ((rd_T65 t175 x36_1).f6)) := (blk_cell BK179.out 6).trans rfl; have hcz87_7 : w86.cell? ⟨gb179, 7, none⟩ = some (.int .i64 ((rd_T65 t175 x36_1).f7)) := (blk_cell BK179.out 7).trans rfl; have hfz87_0 := blk_frozen BK179.out 0; have hfz87_1 := blk_frozen BK179.out 1; have hfz87_2 := blk_frozen BK179.out 2; have hfz87_3 := blk_frozen BK179.out 3; have hfz87_4 := blk_frozen BK179.out 4; have hfz87_5 := blk_frozen BK179.out 5; have hfz87_6 := blk_frozen BK179.out 6; have hfz87_7 := blk_frozen BK179.out 7; obtain ⟨Ao88, co88, eo88⟩ := Kd.R_slice HO_11.out; subst eo88) | ((with_reducible refine gate_callee (f := 20) rfl ?_); refine goesL_ (some 53) rfl rfl Try.func20 (by kernel_rfl) rfl #[.slice Ao88 t172.length co88, .int .i64 ((rd_T65 t175 x36_1).f2)] rfl (by (try simp only [List.map_toArray, List.map_cons, List.map_nil]); first | done | rfl | (simp only [List.length_drop, List.length_take]; rfl)) ?_; (with_reducible refine (early_At.calls k1 _ _ t172 ((rd_T65 t175 x36_1).f2) t183 false _ ?side1 ?side2 A19.out).mono ?_); (case side1 => repeat (first | exact (Kd.R_reads' HO_11.out).2.2 | (with_reducible refine Kd.C_alloc ?_ _) | (with_reducible refine Kd.C_drewN ?_ _) | (with_reducible refine Kd.C_drew ?_))); (case side2 => exact (Kd.R_reads' HO_11.out).2.1); rintro e w89 ⟨rfl, hb⟩; refine ⟨_, rfl, ?_⟩; have n0_ := Aside0.mk (Kd.R_below (by (with_reducible repeat (first | apply Kd.R_alloc | apply Kd.R_drewN | apply Kd.R_drew)); exact HO_11.out) hb); have n1_ := Aside0.mk (Kd.R_below (by (with_reducible repeat (first | apply Kd.R_alloc | apply Kd.R_drewN | apply Kd.R_drew)); exact HO_34.out) hb); have n2_ := Aside0.mk (blk_below (g := gb170) (o := .cells #[.slice A0_0 l0_0.length c0_0, .int .i64 a0_1, .int .i64 a0_2, .int .i64 a0_3, .slice A0_4 l0_4.length c0_4] 58 (0, 0)) (by (with_reducible repeat (first | refine blk_drewN ?_ _ | refine blk_drew ?_ | refine blk_alloc ?_ _)); exact BK170.out) hb); have n3_ := Aside0.mk (blk_below (g := gb171) (o := .cells #[.int .i64 x172000_1, .int .i64 x172001_1, .int .i64 x172002_1] 56 (0, 0)) (by (with_reducible repeat (first | refine blk_drewN ?_ _ | refine blk_drew ?_ | refine blk_alloc ?_ _)); exact BK171.out) hb); have n4_ := Aside0.mk (blk_below (g := gb179) (o := .cells #[.int .i64 ((rd_T65 t175 x36_1).f0), .int .i64 ((rd_T65 t175 x36_1).f1), .int .i64 ((rd_T65 t175 x36_1).f2), .int .i64 ((rd_T65 t175 x36_1).f3), .int .i64 ((rd_T65 t175 x36_1).f4), .int .i64 ((rd_T65 t175 x36_1).f5), .int .i64 ((rd_T65 t175 x36_1).f6), .int .i64 ((rd_T65 t175 x36_1).f7)] 65 (0, 0)) (by (with_reducible repeat (first | refine blk_drewN ?_ _ | refine blk_drew ?_ | refine blk_alloc ?_ _)); exact BK179.out) hb); have n5_ := Aside0.mk (below_step (by repeat (first | (with_reducible first | exact HB.out | apply below_alloc | apply pw_below_drewN | apply below_drew1 | refine below_set ?_ GE170.out | refine below_set ?_ GE171.out | refine below_set ?_ GE179.out) | exact HB.out)) hb); clear HO_11; clear HO_34; clear BK170; clear BK171; clear BK179; clear HB; have HO_11 := n0_; have HO_34 := n1_; have BK170 := n2_; have BK171 := n3_; have BK179 := n4_; have HB := n5_; clear n0_ n1_ n2_ n3_ n4_ n5_; (try clear hb); (try clear hb2); (try clear hk); (try clear hi)))
                go_roundg k1
                case measure => have := HK1.out; omega
                case rel => exact ⟨(wrap64 (x36_1 + 1)), (x172000_1), (x172001_1), (x172002_1), (by first | rfl | (simp; done) | (simp [*]; done)), H', ⟨by have := HK1.out; omega⟩, ⟨by (with_reducible repeat (first | apply Kd.R_alloc | apply Kd.R_drewN | apply Kd.R_drew)); exact HO_11.out⟩, ⟨by (with_reducible repeat (first | apply Kd.R_alloc | apply Kd.R_drewN | apply Kd.R_drew)); exact Kd.R_mono HO_34.out (fun _ hk => trivial)⟩, ⟨by (with_reducible repeat (first | refine blk_drewN ?_ _ | refine blk_drew ?_ | refine blk_alloc ?_ _)); exact BK170.out⟩, ⟨by (with_reducible repeat (first | refine blk_drewN ?_ _ | refine blk_drew ?_ | refine blk_alloc ?_ _)); exact BK171.out⟩, ⟨by repeat (first | (with_reducible first | exact HB.out | apply below_alloc | apply pw_below_drewN | apply below_drew1 | refine below_set ?_ GE170.out | refine below_set ?_ GE171.out | refine below_set ?_ GE179.out) | exact HB.out)⟩⟩
            · replace c20 := Bool.eq_false_iff.mpr c20
              subst c20
              have H1 : (least_search_next.l0 k1 a2 t172 t175 (t175.length : Int) (wrap64 (x36_1 + 1)) l0_0 a0_1 a0_2 a0_3 l0_4) = some (r1, r2, r3, r4, r5) := by rw [if_neg (show ¬ (false = true) by decide)] at H; exact H
              clear H
              have H := H1
              clear H1
              have H' := Aside0.mk H
              clear H
              have p178 : 0 ≤ (x36_1 : Int) := of_decide_eq_true (by first | (with_reducible assumption) | assumption)
              have q178 : x36_1 < (t175.length : Int) := of_decide_eq_true (by first | (with_reducible assumption) | assumption)
              obtain ⟨ad178, e178, hx178_0, hx178_1, hx178_2, hx178_3, hx178_4, hx178_5, hx178_6, hx178_7⟩ := at_T65 (Kd.R_reads' HO_34.out).2.2 x36_1 p178 q178
              cases e178
              replace p178 := eq_true p178
              replace q178 := eq_true q178
              go_wp2_with (first | ((with_reducible refine gate_dst (N := 13) rfl ?_); refine box_event ?hg (N := 13) ?hd (cs := #[.int .i64 0, .int .i64 0, .int .i64 0, .int .i64 0, .int .i64 0, .int .i64 0, .int .i64 0, .int .i64 0]) (t := 65) ?hr ?_; (case hd => rfl); (case hg => rfl); (case hr => first | (go_simp; done) | (go_simp; rfl)); intro gb179 hg w90 hbox hb; have n0_ := Aside0.mk (Kd.R_below (by (with_reducible repeat (first | apply Kd.R_alloc | apply Kd.R_drewN | apply Kd.R_drew)); exact HO_11.out) hb); have n1_ := Aside0.mk (Kd.R_below (Kd.R_elderB (by (with_reducible repeat (first | apply Kd.R_alloc | apply Kd.R_drewN | apply Kd.R_drew)); exact HO_34.out) gb179 (Nat.le_of_eq hg.symm)) hb); have n2_ := Aside0.mk (blk_below (g := gb170) (o := .cells #[.slice A0_0 l0_0.length c0_0, .int .i64 a0_1, .int .i64 a0_2, .int .i64 a0_3, .slice A0_4 l0_4.length c0_4] 58 (0, 0)) (by (with_reducible repeat (first | refine blk_drewN ?_ _ | refine blk_drew ?_ | refine blk_alloc ?_ _)); exact BK170.out) hb); have n3_ := Aside0.mk (blk_below (g := gb171) (o := .cells #[.int .i64 x172000_1, .int .i64 x172001_1, .int .i64 x172002_1] 56 (0, 0)) (by (with_reducible repeat (first | refine blk_drewN ?_ _ | refine blk_drew ?_ | refine blk_alloc ?_ _)); exact BK171.out) hb); have n4_ := Aside0.mk (below_step (by repeat (first | (with_reducible first | exact HB.out | apply below_alloc | apply pw_below_drewN | apply below_drew1 | refine below_set ?_ GE170.out | refine below_set ?_ GE171.out) | exact HB.out)) hb); have n5_ := Aside0.mk (hbox); have n6_ := Aside0.mk ((by rw [hg]; exact (below_size (by repeat (first | (with_reducible first | exact HB.out | apply below_alloc | apply pw_below_drewN | apply below_drew1 | refine below_set ?_ GE170.out | refine below_set ?_ GE171.out) | exact HB.out))) : w.heap.size ≤ gb179)); have n7_ := Aside0.mk ((by rw [hg]; exact (below_size (by repeat (first | (with_reducible first | exact HB.out | apply below_alloc | apply pw_below_drewN | apply below_drew1 | refine below_set ?_ GE170.out | refine below_set ?_ GE171.out) | exact HB.out))) : w.heap.size ≤ gb179)); have n8_ := Aside0.mk ((by rw [hg]; exact Nat.ne_of_lt (blk_lt (g := gb170) (o := .cells #[.slice A0_0 l0_0.length c0_0, .int .i64 a0_1, .int .i64 a0_2, .int .i64 a0_3, .slice A0_4 l0_4.length c0_4] 58 (0, 0)) (by (with_reducible repeat (first | refine blk_drewN ?_ _ | refine blk_drew ?_ | refine blk_alloc ?_ _)); exact BK170.out)) : gb170 ≠ gb179)); have n9_ := Aside0.mk ((by rw [hg]; exact Nat.ne_of_gt (blk_lt (g := gb170) (o := .cells #[.slice A0_0 l0_0.length c0_0, .int .i64 a0_1, .int .i64 a0_2, .int .i64 a0_3, .slice A0_4 l0_4.length c0_4] 58 (0, 0)) (by (with_reducible repeat (first | refine blk_drewN ?_ _ | refine blk_drew ?_ | refine blk_alloc ?_ _)); exact BK170.out)) : gb179 ≠ gb170)); have n10_ := Aside0.mk ((by rw [hg]; exact Nat.ne_of_lt (blk_lt (g := gb171) (o := .cells #[.int .i64 x172000_1, .int .i64 x172001_1, .int .i64 x172002_1] 56 (0, 0)) (by (with_reducible repeat (first | refine blk_drewN ?_ _ | refine blk_drew ?_ | refine blk_alloc ?_ _)); exact BK171.out)) : gb171 ≠ gb179)); have n11_ := Aside0.mk ((by rw [hg]; exact Nat.ne_of_gt (blk_lt (g := gb171) (o := .cells #[.int .i64 x172000_1, .int .i64 x172001_1, .int .i64 x172002_1] 56 (0, 0)) (by (with_reducible repeat (first | refine blk_drewN ?_ _ | refine blk_drew ?_ | refine blk_alloc ?_ _)); exact BK171.out)) : gb179 ≠ gb171)); clear HO_11; clear HO_34; clear BK170; clear BK171; clear HB; have HO_11 := n0_; have HO_34 := n1_; have BK170 := n2_; have BK171 := n3_; have HB := n4_; have BK179 := n5_; have GW179 := n6_; have GE179 := n7_; have NB170_179 := n8_; have NB179_170 := n9_; have NB171_179 := n10_; have NB179_171 := n11_; clear n0_ n1_ n2_ n3_ n4_ n5_ n6_ n7_ n8_ n9_ n10_ n11_; clear hb hbox hg; have hnb91 := NB179_170.out; have hnc91 := NB170_179.out; have hnb92 := NB179_171.out; have hnc92 := NB171_179.out; have hcz93_0 : w90.cell? ⟨gb179, 0, none⟩ = some (.int .i64 0) := (blk_cell BK179.out 0).trans rfl; have hcz93_1 : w90.cell? ⟨gb179, 1, none⟩ = some (.int .i64 0) := (blk_cell BK179.out 1).trans rfl; have hcz93_2 : w90.cell? ⟨gb179, 2, none⟩ = some (.int .i64 0) := (blk_cell BK179.out 2).trans rfl; have hcz93_3 : w90.cell? ⟨gb179, 3, none⟩ = some (.int .i64 0) := (blk_cell BK179.out 3).trans rfl; have hcz93_4 : w90.cell? ⟨gb179, 4, none⟩ = some (.int .i64 0) := (blk_cell BK179.out 4).trans rfl; have hcz93_5 : w90.cell? ⟨gb179, 5, none⟩ = some (.int .i64 0) := (blk_cell BK179.out 5).trans rfl; have hcz93_6 : w90.cell? ⟨gb179, 6, none⟩ = some (.int .i64 0) := (blk_cell BK179.out 6).trans rfl; have hcz93_7 : w90.cell? ⟨gb179, 7, none⟩ = some (.int .i64 0) := (blk_cell BK179.out 7).trans rfl; have hfz93_0 := blk_frozen BK179.out 0; have hfz93_1 := blk_frozen BK179.out 1; have hfz93_2 := blk_frozen BK179.out 2; have hfz93_3 := blk_frozen BK179.out 3; have hfz93_4 := blk_frozen BK179.out 4; have hfz93_5 := blk_frozen BK179.out 5; have hfz93_6 := blk_frozen BK179.out 6; have hfz93_7 := blk_frozen BK179.out 7; have hnb94 := NB170_171.out; have hnc94 := NB171_170.out; have hcz95_0 : w90.cell? ⟨gb170, 0, none⟩ = some (.slice A0_0 l0_0.length c0_0) := (blk_cell BK170.out 0).trans rfl; have hcz95_1 : w90.cell? ⟨gb170, 1, none⟩ = some (.int .i64 a0_1) := (blk_cell BK170.out 1).trans rfl; have hcz95_2 : w90.cell? ⟨gb170, 2, none⟩ = some (.int .i64 a0_2) := (blk_cell BK170.out 2).trans rfl; have hcz95_3 : w90.cell? ⟨gb170, 3, none⟩ = some (.int .i64 a0_3) := (blk_cell BK170.out 3).trans rfl; have hcz95_4 : w90.cell? ⟨gb170, 4, none⟩ = some (.slice A0_4 l0_4.length c0_4) := (blk_cell BK170.out 4).trans rfl; have hfz95_0 := blk_frozen BK170.out 0; have hfz95_1 := blk_frozen BK170.out 1; have hfz95_2 := blk_frozen BK170.out 2; have hfz95_3 := blk_frozen BK170.out 3; have hfz95_4 := blk_frozen BK170.out 4) | ((with_reducible refine gate_callee (f := 46) rfl ?_); refine goesL_ (some 45) rfl rfl Try.func46 (by kernel_rfl) rfl #[.agg #[.int .i64 ((rd_T65 t175 x36_1).f0), .int .i64 ((rd_T65 t175 x36_1).f1), .int .i64 ((rd_T65 t175 x36_1).f2), .int .i64 ((rd_T65 t175 x36_1).f3), .int .i64 ((rd_T65 t175 x36_1).f4), .int .i64 ((rd_T65 t175 x36_1).f5), .int .i64 ((rd_T65 t175 x36_1).f6), .int .i64 ((rd_T65 t175 x36_1).f7)], .int .i64 a2, .int .i64 a0_2] rfl (by (try simp only [List.map_toArray, List.map_cons, List.map_nil]); first | done | rfl | (simp only [List.length_drop, List.length_take]; rfl)) ?_; (with_reducible refine (hop_Pass.calls k1 ((rd_T65 t175 x36_1).f0) ((rd_T65 t175 x36_1).f1) ((rd_T65 t175 x36_1).f2) ((rd_T65 t175 x36_1).f3) ((rd_T65 t175 x36_1).f4) ((rd_T65 t175 x36_1).f5) ((rd_T65 t175 x36_1).f6) ((rd_T65 t175 x36_1).f7) a2 a0_2 t180 t181 false _ A18.out).mono ?_); rintro e w96 ⟨rfl, hb⟩; refine ⟨_, rfl, ?_⟩; have n0_ := Aside0.mk (Kd.R_below (by (with_reducible repeat (first | apply Kd.R_alloc | apply Kd.R_drewN | apply Kd.R_drew)); exact (Kd.R_mono (Kd.R_far (p := ⟨gb179, 7, none⟩) (Kd.R_far (p := ⟨gb179, 6, none⟩) (Kd.R_far (p := ⟨gb179, 5, none⟩) (Kd.R_far (p := ⟨gb179, 4, none⟩) (Kd.R_far (p := ⟨gb179, 3, none⟩) (Kd.R_far (p := ⟨gb179, 2, none⟩) (Kd.R_far (p := ⟨gb179, 1, none⟩) (Kd.R_far (p := ⟨gb179, 0, none⟩) (Kd.R_types HO_11.out BK179.out (by decide)) (fun _ hk => hk.2) (.int .i64 ((rd_T65 t175 x36_1).f0))) (fun _ hk => hk.2) (.int .i64 ((rd_T65 t175 x36_1).f1))) (fun _ hk => hk.2) (.int .i64 ((rd_T65 t175 x36_1).f2))) (fun _ hk => hk.2) (.int .i64 ((rd_T65 t175 x36_1).f3))) (fun _ hk => hk.2) (.int .i64 ((rd_T65 t175 x36_1).f4))) (fun _ hk => hk.2) (.int .i64 ((rd_T65 t175 x36_1).f5))) (fun _ hk => hk.2) (.int .i64 ((rd_T65 t175 x36_1).f6))) (fun _ hk => hk.2) (.int .i64 ((rd_T65 t175 x36_1).f7))) (fun _ h_ => h_.1))) hb); have n1_ := Aside0.mk (Kd.R_below (by (with_reducible repeat (first | apply Kd.R_alloc | apply Kd.R_drewN | apply Kd.R_drew)); exact (Kd.R_mono (Kd.R_far (p := ⟨gb179, 7, none⟩) (Kd.R_far (p := ⟨gb179, 6, none⟩) (Kd.R_far (p := ⟨gb179, 5, none⟩) (Kd.R_far (p := ⟨gb179, 4, none⟩) (Kd.R_far (p := ⟨gb179, 3, none⟩) (Kd.R_far (p := ⟨gb179, 2, none⟩) (Kd.R_far (p := ⟨gb179, 1, none⟩) (Kd.R_far (p := ⟨gb179, 0, none⟩) (Kd.R_mono HO_34.out (fun k_ hk => (⟨hk, hk.2⟩ : _ ∧ k_ ≠ gb179))) (fun _ hk => hk.2) (.int .i64 ((rd_T65 t175 x36_1).f0))) (fun _ hk => hk.2) (.int .i64 ((rd_T65 t175 x36_1).f1))) (fun _ hk => hk.2) (.int .i64 ((rd_T65 t175 x36_1).f2))) (fun _ hk => hk.2) (.int .i64 ((rd_T65 t175 x36_1).f3))) (fun _ hk => hk.2) (.int .i64 ((rd_T65 t175 x36_1).f4))) (fun _ hk => hk.2) (.int .i64 ((rd_T65 t175 x36_1).f5))) (fun _ hk => hk.2) (.int .i64 ((rd_T65 t175 x36_1).f6))) (fun _ hk => hk.2) (.int .i64 ((rd_T65 t175 x36_1).f7))) (fun _ h_ => h_.1))) hb); have n2_ := Aside0.mk (blk_below (g := gb170) (o := .cells #[.slice A0_0 l0_0.length c0_0, .int .i64 a0_1, .int .i64 a0_2, .int .i64 a0_3, .slice A0_4 l0_4.length c0_4] 58 (0, 0)) (by (with_reducible repeat (first | refine blk_drewN ?_ _ | refine blk_drew ?_ | refine blk_alloc ?_ _)); refine blk_far ?_ NB170_179.out _; (with_reducible repeat (first | refine blk_drewN ?_ _ | refine blk_drew ?_ | refine blk_alloc ?_ _)); refine blk_far ?_ NB170_179.out _; (with_reducible repeat (first | refine blk_drewN ?_ _ | refine blk_drew ?_ | refine blk_alloc ?_ _)); refine blk_far ?_ NB170_179.out _; (with_reducible repeat (first | refine blk_drewN ?_ _ | refine blk_drew ?_ | refine blk_alloc ?_ _)); refine blk_far ?_ NB170_179.out _; (with_reducible repeat (first | refine blk_drewN ?_ _ | refine blk_drew ?_ | refine blk_alloc ?_ _)); refine blk_far ?_ NB170_179.out _; (with_reducible repeat (first | refine blk_drewN ?_ _ | refine blk_drew ?_ | refine blk_alloc ?_ _)); refine blk_far ?_ NB170_179.out _; (with_reducible repeat (first | refine blk_drewN ?_ _ | refine blk_drew ?_ | refine blk_alloc ?_ _)); refine blk_far ?_ NB170_179.out _; (with_reducible repeat (first | refine blk_drewN ?_ _ | refine blk_drew ?_ | refine blk_alloc ?_ _)); refine blk_far ?_ NB170_179.out _; (with_reducible repeat (first | refine blk_drewN ?_ _ | refine blk_drew ?_ | refine blk_alloc ?_ _)); exact BK170.out) hb); have n3_ := Aside0.mk (blk_below (g := gb171) (o := .cells #[.int .i64 x172000_1, .int .i64 x172001_1, .int .i64 x172002_1] 56 (0, 0)) (by (with_reducible repeat (first | refine blk_drewN ?_ _ | refine blk_drew ?_ | refine blk_alloc ?_ _)); refine blk_far ?_ NB171_179.out _; (with_reducible repeat (first | refine blk_drewN ?_ _ | refine blk_drew ?_ | refine blk_alloc ?_ _)); refine blk_far ?_ NB171_179.out _; (with_reducible repeat (first | refine blk_drewN ?_ _ | refine blk_drew ?_ | refine blk_alloc ?_ _)); refine blk_far ?_ NB171_179.out _; (with_reducible repeat (first | refine blk_drewN ?_ _ | refine blk_drew ?_ | refine blk_alloc ?_ _)); refine blk_far ?_ NB171_179.out _; (with_reducible repeat (first | refine blk_drewN ?_ _ | refine blk_drew ?_ | refine blk_alloc ?_ _)); refine blk_far ?_ NB171_179.out _; (with_reducible repeat (first | refine blk_drewN ?_ _ | refine blk_drew ?_ | refine blk_alloc ?_ _)); refine blk_far ?_ NB171_179.out _; (with_reducible repeat (first | refine blk_drewN ?_ _ | refine blk_drew ?_ | refine blk_alloc ?_ _)); refine blk_far ?_ NB171_179.out _; (with_reducible repeat (first | refine blk_drewN ?_ _ | refine blk_drew ?_ | refine blk_alloc ?_ _)); refine blk_far ?_ NB171_179.out _; (with_reducible repeat (first | refine blk_drewN ?_ _ | refine blk_drew ?_ | refine blk_alloc ?_ _)); exact BK171.out) hb); have n4_ := Aside0.mk (blk_below (g := gb179) (o := .cells #[.int .i64 ((rd_T65 t175 x36_1).f0), .int .i64 ((rd_T65 t175 x36_1).f1), .int .i64 ((rd_T65 t175 x36_1).f2), .int .i64 ((rd_T65 t175 x36_1).f3), .int .i64 ((rd_T65 t175 x36_1).f4), .int .i64 ((rd_T65 t175 x36_1).f5), .int .i64 ((rd_T65 t175 x36_1).f6), .int .i64 ((rd_T65 t175 x36_1).f7)] 65 (0, 0)) (by (with_reducible repeat (first | refine blk_drewN ?_ _ | refine blk_drew ?_ | refine blk_alloc ?_ _)); refine blk_put (cs := #[.int .i64 ((rd_T65 t175 x36_1).f0), .int .i64 ((rd_T65 t175 x36_1).f1), .int .i64 ((rd_T65 t175 x36_1).f2), .int .i64 ((rd_T65 t175 x36_1).f3), .int .i64 ((rd_T65 t175 x36_1).f4), .int .i64 ((rd_T65 t175 x36_1).f5), .int .i64 ((rd_T65 t175 x36_1).f6), .int .i64 0]) ?_ 7 _ rfl; (with_reducible repeat (first | refine blk_drewN ?_ _ | refine blk_drew ?_ | refine blk_alloc ?_ _)); refine blk_put (cs := #[.int .i64 ((rd_T65 t175 x36_1).f0), .int .i64 ((rd_T65 t175 x36_1).f1), .int .i64 ((rd_T65 t175 x36_1).f2), .int .i64 ((rd_T65 t175 x36_1).f3), .int .i64 ((rd_T65 t175 x36_1).f4), .int .i64 ((rd_T65 t175 x36_1).f5), .int .i64 0, .int .i64 0]) ?_ 6 _ rfl; (with_reducible repeat (first | refine blk_drewN ?_ _ | refine blk_drew ?_ | refine blk_alloc ?_ _)); refine blk_put (cs := #[.int .i64 ((rd_T65 t175 x36_1).f0), .int .i64 ((rd_T65 t175 x36_1).f1), .int .i64 ((rd_T65 t175 x36_1).f2), .int .i64 ((rd_T65 t175 x36_1).f3), .int .i64 ((rd_T65 t175 x36_1).f4), .int .i64 0, .int .i64 0, .int .i64 0]) ?_ 5 _ rfl; (with_reducible repeat (first | refine blk_drewN ?_ _ | refine blk_drew ?_ | refine blk_alloc ?_ _)); refine blk_put (cs := #[.int .i64 ((rd_T65 t175 x36_1).f0), .int .i64 ((rd_T65 t175 x36_1).f1), .int .i64 ((rd_T65 t175 x36_1).f2), .int .i64 ((rd_T65 t175 x36_1).f3), .int .i64 0, .int .i64 0, .int .i64 0, .int .i64 0]) ?_ 4 _ rfl; (with_reducible repeat (first | refine blk_drewN ?_ _ | refine blk_drew ?_ | refine blk_alloc ?_ _)); refine blk_put (cs := #[.int .i64 ((rd_T65 t175 x36_1).f0), .int .i64 ((rd_T65 t175 x36_1).f1), .int .i64 ((rd_T65 t175 x36_1).f2), .int .i64 0, .int .i64 0, .int .i64 0, .int .i64 0, .int .i64 0]) ?_ 3 _ rfl; (with_reducible repeat (first | refine blk_drewN ?_ _ | refine blk_drew ?_ | refine blk_alloc ?_ _)); refine blk_put (cs := #[.int .i64 ((rd_T65 t175 x36_1).f0), .int .i64 ((rd_T65 t175 x36_1).f1), .int .i64 0, .int .i64 0, .int .i64 0, .int .i64 0, .int .i64 0, .int .i64 0]) ?_ 2 _ rfl; (with_reducible repeat (first | refine blk_drewN ?_ _ | refine blk_drew ?_ | refine blk_alloc ?_ _)); refine blk_put (cs := #[.int .i64 ((rd_T65 t175 x36_1).f0), .int .i64 0, .int .i64 0, .int .i64 0, .int .i64 0, .int .i64 0, .int .i64 0, .int .i64 0]) ?_ 1 _ rfl; (with_reducible repeat (first | refine blk_drewN ?_ _ | refine blk_drew ?_ | refine blk_alloc ?_ _)); refine blk_put (cs := #[.int .i64 0, .int .i64 0, .int .i64 0, .int .i64 0, .int .i64 0, .int .i64 0, .int .i64 0, .int .i64 0]) ?_ 0 _ rfl; (with_reducible repeat (first | refine blk_drewN ?_ _ | refine blk_drew ?_ | refine blk_alloc ?_ _)); exact BK179.out) hb); have n5_ := Aside0.mk (below_step (by repeat (first | (with_reducible first | exact HB.out | apply below_alloc | apply pw_below_drewN | apply below_drew1 | refine below_set ?_ GE170.out | refine below_set ?_ GE171.out | refine below_set ?_ GE179.out) | exact HB.out)) hb); clear HO_11; clear HO_34; clear BK170; clear BK171; clear BK179; clear HB; have HO_11 := n0_; have HO_34 := n1_; have BK170 := n2_; have BK171 := n3_; have BK179 := n4_; have HB := n5_; clear n0_ n1_ n2_ n3_ n4_ n5_; (try clear hb); (try clear hb2); (try clear hk); (try clear hi); have hcz97_0 : w96.cell? ⟨gb179, 0, none⟩ = some (.int .i64 ((rd_T65 t175 x36_1).f0)) := (blk_cell BK179.out 0).trans rfl; have hcz97_1 : w96.cell? ⟨gb179, 1, none⟩ = some (.int .i64 ((rd_T65 t175 x36_1).f1)) := (blk_cell BK179.out 1).trans rfl; have hcz97_2 : w96.cell? ⟨gb179, 2, none⟩ = some (.int .i64 ((rd_T65 t175 x36_1).f2)) := (blk_cell BK179.out 2).trans rfl; have hcz97_3 : w96.cell? ⟨gb179, 3, none⟩ = some (.int .i64 ((rd_T65 t175 x36_1).f3)) := (blk_cell BK179.out 3).trans rfl; have hcz97_4 : w96.cell? ⟨gb179, 4, none⟩ = some (.int .i64 ((rd_T65 t175 x36_1).f4)) := (blk_cell BK179.out 4).trans rfl; have hcz97_5 : w96.cell? ⟨gb179, 5, none⟩ = some (.int .i64 ((rd_T65 t175 x36_1).f5)) := (blk_cell BK179.out 5).trans rfl; have hcz97_6 : w96.cell? ⟨gb179, 6, none⟩ = some (.int .i64 ((rd_T65 t175 x36_1).f6)) := (blk_cell BK179.out 6).trans rfl; have hcz97_7 : w96.cell? ⟨gb179, 7, none⟩ = some (.int .i64 ((rd_T65 t175 x36_1).f7)) := (blk_cell BK179.out 7).trans rfl; have hfz97_0 := blk_frozen BK179.out 0; have hfz97_1 := blk_frozen BK179.out 1; have hfz97_2 := blk_frozen BK179.out 2; have hfz97_3 := blk_frozen BK179.out 3; have hfz97_4 := blk_frozen BK179.out 4; have hfz97_5 := blk_frozen BK179.out 5; have hfz97_6 := blk_frozen BK179.out 6; have hfz97_7 := blk_frozen BK179.out 7; obtain ⟨Ao98, co98, eo98⟩ := Kd.R_slice HO_11.out; subst eo98) | ((with_reducible refine gate_callee (f := 20) rfl ?_); refine goesL_ (some 53) rfl rfl Try.func20 (by kernel_rfl) rfl #[.slice Ao98 t172.length co98, .int .i64 ((rd_T65 t175 x36_1).f2)] rfl (by (try simp only [List.map_toArray, List.map_cons, List.map_nil]); first | done | rfl | (simp only [List.length_drop, List.length_take]; rfl)) ?_; (with_reducible refine (early_At.calls k1 _ _ t172 ((rd_T65 t175 x36_1).f2) t183 t184 _ ?side1 ?side2 A19.out).mono ?_); (case side1 => repeat (first | exact (Kd.R_reads' HO_11.out).2.2 | (with_reducible refine Kd.C_alloc ?_ _) | (with_reducible refine Kd.C_drewN ?_ _) | (with_reducible refine Kd.C_drew ?_))); (case side2 => exact (Kd.R_reads' HO_11.out).2.1); rintro e w99 ⟨rfl, hb⟩; refine ⟨_, rfl, ?_⟩; have n0_ := Aside0.mk (Kd.R_below (by (with_reducible repeat (first | apply Kd.R_alloc | apply Kd.R_drewN | apply Kd.R_drew)); exact HO_11.out) hb); have n1_ := Aside0.mk (Kd.R_below (by (with_reducible repeat (first | apply Kd.R_alloc | apply Kd.R_drewN | apply Kd.R_drew)); exact HO_34.out) hb); have n2_ := Aside0.mk (blk_below (g := gb170) (o := .cells #[.slice A0_0 l0_0.length c0_0, .int .i64 a0_1, .int .i64 a0_2, .int .i64 a0_3, .slice A0_4 l0_4.length c0_4] 58 (0, 0)) (by (with_reducible repeat (first | refine blk_drewN ?_ _ | refine blk_drew ?_ | refine blk_alloc ?_ _)); exact BK170.out) hb); have n3_ := Aside0.mk (blk_below (g := gb171) (o := .cells #[.int .i64 x172000_1, .int .i64 x172001_1, .int .i64 x172002_1] 56 (0, 0)) (by (with_reducible repeat (first | refine blk_drewN ?_ _ | refine blk_drew ?_ | refine blk_alloc ?_ _)); exact BK171.out) hb); have n4_ := Aside0.mk (blk_below (g := gb179) (o := .cells #[.int .i64 ((rd_T65 t175 x36_1).f0), .int .i64 ((rd_T65 t175 x36_1).f1), .int .i64 ((rd_T65 t175 x36_1).f2), .int .i64 ((rd_T65 t175 x36_1).f3), .int .i64 ((rd_T65 t175 x36_1).f4), .int .i64 ((rd_T65 t175 x36_1).f5), .int .i64 ((rd_T65 t175 x36_1).f6), .int .i64 ((rd_T65 t175 x36_1).f7)] 65 (0, 0)) (by (with_reducible repeat (first | refine blk_drewN ?_ _ | refine blk_drew ?_ | refine blk_alloc ?_ _)); exact BK179.out) hb); have n5_ := Aside0.mk (below_step (by repeat (first | (with_reducible first | exact HB.out | apply below_alloc | apply pw_below_drewN | apply below_drew1 | refine below_set ?_ GE170.out | refine below_set ?_ GE171.out | refine below_set ?_ GE179.out) | exact HB.out)) hb); clear HO_11; clear HO_34; clear BK170; clear BK171; clear BK179; clear HB; have HO_11 := n0_; have HO_34 := n1_; have BK170 := n2_; have BK171 := n3_; have BK179 := n4_; have HB := n5_; clear n0_ n1_ n2_ n3_ n4_ n5_; (try clear hb); (try clear hb2); (try clear hk); (try clear hi)))
              go_roundg k1
              case measure => have := HK1.out; omega
              case rel => exact ⟨(wrap64 (x36_1 + 1)), (x172000_1), (x172001_1), (x172002_1), (by first | rfl | (simp; done) | (simp [*]; done)), H', ⟨by have := HK1.out; omega⟩, ⟨by (with_reducible repeat (first | apply Kd.R_alloc | apply Kd.R_drewN | apply Kd.R_drew)); exact HO_11.out⟩, ⟨by (with_reducible repeat (first | apply Kd.R_alloc | apply Kd.R_drewN | apply Kd.R_drew)); exact Kd.R_mono HO_34.out (fun _ hk => trivial)⟩, ⟨by (with_reducible repeat (first | refine blk_drewN ?_ _ | refine blk_drew ?_ | refine blk_alloc ?_ _)); exact BK170.out⟩, ⟨by (with_reducible repeat (first | refine blk_drewN ?_ _ | refine blk_drew ?_ | refine blk_alloc ?_ _)); exact BK171.out⟩, ⟨by repeat (first | (with_reducible first | exact HB.out | apply below_alloc | apply pw_below_drewN | apply below_drew1 | refine below_set ?_ GE170.out | refine below_set ?_ GE171.out | refine below_set ?_ GE179.out) | exact HB.out)⟩⟩
          · rw [if_neg c17] at H
            exact absurd H (by simp)
        · rw [if_neg c16] at H
          exact absurd H (by simp)
      · rw [if_neg c15] at H
        have c15b0 : decide (x36_1 < (t175.length : Int)) = false := decide_eq_false c15
        clear c15
        simp only [Option.some.injEq, Prod.mk.injEq] at H
        obtain ⟨rfl, rfl, rfl, rfl, rfl⟩ := H
        have hnb100 := NB171_170.out
        have hnc100 := NB170_171.out
        have hcz101_0 : wr.cell? ⟨gb171, 0, none⟩ = some (.int .i64 x172000_1) := (blk_cell BK171.out 0).trans rfl
        have hcz101_1 : wr.cell? ⟨gb171, 1, none⟩ = some (.int .i64 x172001_1) := (blk_cell BK171.out 1).trans rfl
        have hcz101_2 : wr.cell? ⟨gb171, 2, none⟩ = some (.int .i64 x172002_1) := (blk_cell BK171.out 2).trans rfl
        have hfz101_0 := blk_frozen BK171.out 0
        have hfz101_1 := blk_frozen BK171.out 1
        have hfz101_2 := blk_frozen BK171.out 2
        go_wp2
        refine bodyPost_ret (results_ctt rfl _ _ gb171 56 #[.int .i64 0, .int .i64 0, .int .i64 0] (0, 0) _ rfl (by (with_reducible repeat (first | refine blk_drewN ?_ _ | refine blk_drew ?_ | refine blk_alloc ?_ _)); refine blk_put (cs := #[.int .i64 0, .int .i64 0, .int .i64 x172002_1]) ?_ 2 _ rfl; (with_reducible repeat (first | refine blk_drewN ?_ _ | refine blk_drew ?_ | refine blk_alloc ?_ _)); refine blk_put (cs := #[.int .i64 0, .int .i64 x172001_1, .int .i64 x172002_1]) ?_ 1 _ rfl; (with_reducible repeat (first | refine blk_drewN ?_ _ | refine blk_drew ?_ | refine blk_alloc ?_ _)); refine blk_put (cs := #[.int .i64 x172000_1, .int .i64 x172001_1, .int .i64 x172002_1]) ?_ 0 _ rfl; (with_reducible repeat (first | refine blk_drewN ?_ _ | refine blk_drew ?_ | refine blk_alloc ?_ _)); exact BK171.out) Try.underlying56 rfl (by kernel_rfl)) rfl ?_
        exact ⟨by first | rfl | (simp [errW_none, errW_some] <;> rfl) | (simp [*, errW_none, errW_some] <;> rfl), by repeat (first | (with_reducible first | exact HB.out | apply below_alloc | apply pw_below_drewN | apply below_drew1 | refine below_set ?_ GE170.out | refine below_set ?_ GE171.out) | exact HB.out)⟩
end Go.Proofs.Ytijflnpgiegajaa.Q
end
section
namespace Go.Proofs.Ytijflnpgiegajaa.Q
open Go.RowKit Go.Proofs.YtijflnpgiegajaaW.PrintWords Go.Proofs.YtijflnpgiegajaaW.PrintLast Go.Proofs.YtijflnpgiegajaaW.PrintMore Go.Proofs.Ytijflnpgiegajaa.IM Go.Proofs.Ytijflnpgiegajaa.Ev
set_option linter.unusedVariables false
set_option linter.unusedSimpArgs false
def leastK (l : List S65) (sh : List Int) : Nat := l.length * l.length + l.length + sh.length + 10
def leastGo (l : List S65) (dst size by_ : Int) (sh : List Int) : Nat → Int → Int → List S56 → Option (List S56 × Bool)
  | 0, _, _, acc => some (acc, true)
  | h + 1, node, t, acc => match least_search_next.f (leastK l sh) l dst size by_ sh node t (h : Int) with
    | none => none
    | some (i, s, a, n, ok) => if ok = true then leastGo l dst size by_ sh h n a (acc ++ [⟨i, s, a⟩]) else some (acc ++ [⟨i, s, a⟩], false)
def least_Route.f (l0 : List S65) (a1 a2 a3 a4 a5 : Int) (l6 : List Int) : Option (List S56 × Int × Bool) :=
  if l0.length ≤ 1000000 ∧ l6.length ≤ 1000000 then (early_Times.f l0 a1 a3 a4 l6).bind fun ev => if ev.length ≤ 1000000 then (match atT ev a2 with
    | none => some ([], 0, false)
    | some arr => if arr > a5 then some ([], 0, false) else (late_Fewest.f l0 a1 a2 a3 arr a4 l6).bind fun hk => if hk.2 = true then (leastGo l0 a2 a4 arr l6 hk.1.toNat a1 a3 []).map (fun x => if x.2 = true then (x.1, arr, true) else ([], 0, false)) else some ([], 0, false)) else none else none
theorem fewGo_bd (l : List S65) (dst size : Int) (sh : List Int) (frm now : Int) : ∀ (k h : Nat) (T : List (Int × Int)), 0 ≤ (fewGo l dst size sh frm now k h T).1 ∧ (fewGo l dst size sh frm now k h T).1 ≤ h + k
  | 0, h, T => by simp [fewGo]
  | k + 1, h, T => by
    have ih := fewGo_bd l dst size sh frm now k (h + 1) (stepT l dst size sh T)
    unfold fewGo
    split
    · exact ⟨ih.1, by have := ih.2; omega⟩
    · split
      · exact ⟨by simp, by simp; omega⟩
      · exact ⟨ih.1, by have := ih.2; omega⟩
theorem few_bd {l0 : List S65} {a1 a2 a3 a4 a5 : Int} {l6 : List Int} {n : Int} {ok : Bool} (h : late_Fewest.f l0 a1 a2 a3 a4 a5 l6 = some (n, ok)) : 0 ≤ n ∧ n ≤ 1000001 := by
  unfold late_Fewest.f at h
  split at h
  case isFalse => exact absurd h (by simp)
  rename_i hl
  injection h with h
  split at h
  · injection h with h _
    omega
  · have := fewGo_bd l0 a2 a5 l6 a1 a3 (l0.length + 1) 0 [(a2, a4)]
    rw [h] at this
    simp at this
    omega
theorem info58 : (Try.prog.info? 58).map (fun i => (i.zero, i.size, i.bytes)) = some (some (.agg #[.slice none 0 0, .int .i64 0, .int .i64 0, .int .i64 0, .slice none 0 0]), 5, 72) := by kernel_rfl
theorem info25 : (Try.prog.info? 25).map (fun i => (i.zero, i.size, i.bytes)) = some (some (.slice none 0 0), 1, 24) := by kernel_rfl
structure LSt (w0 w : World) (gs gr gt : Nat) (A0 : Option Addr) (c0 : Nat) (l0 : List S65) (a2 a4 arr : Int) (A6 : Option Addr) (c6 : Nat) (l6 : List Int) (vB v : Value) (acc : List S56) : Prop where
  B : Below w0.heap.size w0 w
  S : w.heap[gs]? = some (.cells #[.slice A0 l0.length c0, .int .i64 a2, .int .i64 a4, .int .i64 arr, .slice A6 l6.length c6] 58 (0, 0))
  R : w.heap[gr]? = some (.cells #[vB, .int .i64 arr] 27 (0, 0))
  T : w.heap[gt]? = some (.cells #[.slice none 0 0, .int .i64 0] 27 (0, 0))
  H : Kd.R k56 56 w w0.heap.size (fun _ => True) v acc
  GR : w0.heap.size ≤ gr
  GT : w0.heap.size ≤ gt
  NT : gt ≠ gr
section
variable {w0 w w' : World} {gs gr gt : Nat} {A0 : Option Addr} {c0 : Nat} {l0 : List S65} {a2 a4 arr : Int} {A6 : Option Addr} {c6 : Nat} {l6 : List Int} {vB v : Value} {acc : List S56}
theorem LSt.below (h : LSt w0 w gs gr gt A0 c0 l0 a2 a4 arr A6 c6 l6 vB v acc) (hb : Below w.heap.size w w') : LSt w0 w' gs gr gt A0 c0 l0 a2 a4 arr A6 c6 l6 vB v acc :=
  ⟨below_step h.B hb, blk_below h.S hb, blk_below h.R hb, blk_below h.T hb, Kd.R_below h.H hb, h.GR, h.GT, h.NT⟩
theorem LSt.app {v' : Value} {x : S56} (h : LSt w0 w gs gr gt A0 c0 l0 a2 a4 arr A6 c6 l6 vB v acc) (ho : Kd.R k56 56 w' w0.heap.size (fun _ => True) v' (acc ++ [x])) (hb : Below w0.heap.size w0 w') (hg : w.drew.grownBy w' v.ownBlock) : LSt w0 w' gs gr gt A0 c0 l0 a2 a4 arr A6 c6 l6 vB v' (acc ++ [x]) :=
  ⟨hb, blk_grown (blk_drew h.S) hg (Kd.R_ne h.H h.S (by decide)), blk_grown (blk_drew h.R) hg (Kd.R_ne h.H h.R (by decide)), blk_grown (blk_drew h.T) hg (Kd.R_ne h.H h.T (by decide)), ho, h.GR, h.GT, h.NT⟩
theorem LSt.store {vC : Value} (h : LSt w0 w gs gr gt A0 c0 l0 a2 a4 arr A6 c6 l6 vB v acc) (hR : w'.heap[gr]? = some (.cells #[vC, .int .i64 arr] 27 (0, 0))) (hg : w.grownBy w' (some gr)) : LSt w0 w' gs gr gt A0 c0 l0 a2 a4 arr A6 c6 l6 vC v acc :=
  ⟨below_grown_one h.B hg h.GR, blk_grown h.S hg (fun e => by injection e with e; have := h.S; rw [e, h.R] at this; injection this with this; injection this with _ this; exact absurd this (by decide)), hR, blk_grown h.T hg (fun e => by injection e with e; exact h.NT e), R_store h.H h.R (by decide) hg, h.GR, h.GT, h.NT⟩
theorem LSt.other {gh : Nat} (h : LSt w0 w gs gr gt A0 c0 l0 a2 a4 arr A6 c6 l6 vB v acc) (hg : w.grownBy w' (some gh)) (hn : gs ≠ gh ∧ gr ≠ gh ∧ gt ≠ gh) (ho : some gh ≠ v.ownBlock) (hb : w0.heap.size ≤ gh) : LSt w0 w' gs gr gt A0 c0 l0 a2 a4 arr A6 c6 l6 vB v acc :=
  ⟨below_grown_one h.B hg hb, blk_grown h.S hg (fun e => by injection e with e; exact hn.1 e), blk_grown h.R hg (fun e => by injection e with e; exact hn.2.1 e), blk_grown h.T hg (fun e => by injection e with e; exact hn.2.2 e), Kd.R_grown2 h.H rfl hg (fun k hk e => ho (by injection hk with hk; rw [hk]; exact e)), h.GR, h.GT, h.NT⟩
theorem LSt.lt (h : LSt w0 w gs gr gt A0 c0 l0 a2 a4 arr A6 c6 l6 vB v acc) : gs ≠ w.heap.size ∧ gr ≠ w.heap.size ∧ gt ≠ w.heap.size := by
  have h1 := (Array.getElem?_eq_some_iff.1 h.S).1
  have h2 := (Array.getElem?_eq_some_iff.1 h.R).1
  have h3 := (Array.getElem?_eq_some_iff.1 h.T).1
  omega
end
set_option maxHeartbeats 8000000 in
set_option maxRecDepth 100000 in
theorem least_Route.calls (A0 : Option Addr) (c0 : Nat) (l0 : List (S65)) (a1 : Int) (a2 : Int) (a3 : Int) (a4 : Int) (a5 : Int) (A6 : Option Addr) (c6 : Nat) (l6 : List Int) (r1 : List (S56)) (r2 : Int) (r3 : Bool) (w : World) (hr0 : Kd.C k65 w A0 l0.length l0) (hc0 : l0.length ≤ c0) (hr6 : Kd.C (Kd.int .i64) w A6 l6.length l6) (hc6 : l6.length ≤ c6) (h : least_Route.f l0 a1 a2 a3 a4 a5 l6 = some (r1, r2, r3)) :
    Calls Try.prog 15 #[.slice A0 l0.length c0, .int .i64 a1, .int .i64 a2, .int .i64 a3, .int .i64 a4, .int .i64 a5, .slice A6 l6.length c6] w fun e w' => ∃ v0_ : Value, e = .returned (.tuple #[.agg #[v0_, .int .i64 r2], .bool r3]) ∧ Kd.R k56 56 w' w.heap.size (fun _ => True) v0_ r1 ∧ Below w.heap.size w w' := by
  unfold least_Route.f at h
  split at h
  case isFalse => exact absurd h (by simp)
  rename_i hlen
  rw [Option.bind_eq_some_iff] at h
  obtain ⟨ev, hev, h⟩ := h
  split at h
  case isFalse => exact absurd h (by simp)
  rename_i hle
  have hat := early_At_eq ev hle (ev.length + 1) (Nat.lt_succ_self _) a2
  have HR0 := Aside0.mk hr0
  have HC0 := Aside0.mk hc0
  have HR6 := Aside0.mk hr6
  have HC6 := Aside0.mk hc6
  have HLN := Aside0.mk hlen
  have HEV := Aside0.mk hev
  have HB := Aside0.mk (Below.refl w.heap.size w)
  clear hr0 hc0 hr6 hc6 hlen hev hle
  cases hq : atT ev a2 with
  | none =>
    rw [hq] at hat h
    have HAT := Aside0.mk hat
    simp only [Option.some.injEq, Prod.mk.injEq] at h
    obtain ⟨rfl, rfl, rfl⟩ := h
    clear hat hq
    go_enter Try.func15, Try.ntmps15
    go_wp2_with (first
      | ((with_reducible refine gate_dst (N := 14) rfl ?_); go_loud (refine box1 14 rfl rfl rfl info27 ?_); intro gt w1 hg hblk hbw hs; have HB1 := Aside0.mk (below_step HB.out hbw); have HT1 := Aside0.mk hblk; have HGT := Aside0.mk (Nat.le_of_eq hg.symm); clear hg hblk hbw hs HB)
      | (go_at_call 21; go_loud (refine (early_Times.calls A0 c0 l0 a1 a3 a4 A6 c6 l6 ev _ (Kd.C_below HR0.out HB1.out) HC0.out (Kd.C_below HR6.out HB1.out) HC6.out HEV.out).mono ?_); rintro e w2 ⟨v2, rfl, ho, hb⟩; obtain ⟨A2, c2, rfl, hle2, hc2⟩ := Kd.R_reads ho; have HB2 := Aside0.mk (below_step HB1.out hb); have HT2 := Aside0.mk (blk_below HT1.out hb); have HE2 := Aside0.mk hc2; have HL2 := Aside0.mk hle2; clear ho hb hle2 hc2 HB1 HT1)
      | (go_at_call 20; go_loud (refine (early_At.calls (ev.length + 1) A2 c2 ev a2 _ _ _ HE2.out HL2.out HAT.out).mono ?_); rintro e w3 ⟨rfl, hb⟩; have HB3 := Aside0.mk (below_step HB2.out hb); have HT3 := Aside0.mk (blk_below HT2.out hb); clear hb HB2 HT2 HE2 HL2)
      | ((with_reducible refine gate_store (t := 27) (p := 14) rfl ?_); go_loud (refine store_part 14 rfl rfl rfl rfl gt 0 _ #[.slice none 0 0, .int .i64 0] #[.slice none 0 0, .int .i64 0] HT3.out rfl (by first | rfl | (go_simp; rfl)) info27 rfl (by simp) (by simp [Value.oneCell']) (by simp) ?_); intro w9 hblk9 hg9 hs9; have HBz := Aside0.mk (below_grown_one HB3.out hg9 HGT.out); have HKz := Aside0.mk hblk9; clear hblk9 hg9 hs9))
    refine bodyPost_ret (results_ct rfl _ _ gt 27 #[.slice none 0 0, .int .i64 0] (0, 0) _ rfl HKz.out Try.underlying27 rfl (by kernel_rfl)) rfl ?_
    exact ⟨_, rfl, Kd.R_nil k56 56 _ w.heap.size (fun _ => True), HBz.out⟩
  | some arr =>
    rw [hq] at hat h
    have HAT := Aside0.mk hat
    simp only at h
    clear hat hq
    by_cases hby : arr > a5
    · rw [if_pos hby] at h
      simp only [Option.some.injEq, Prod.mk.injEq] at h
      obtain ⟨rfl, rfl, rfl⟩ := h
      go_enter Try.func15, Try.ntmps15
      go_wp2_with (first
        | ((with_reducible refine gate_dst (N := 14) rfl ?_); go_loud (refine box1 14 rfl rfl rfl info27 ?_); intro gt w1 hg hblk hbw hs; have HB1 := Aside0.mk (below_step HB.out hbw); have HT1 := Aside0.mk hblk; have HGT := Aside0.mk (Nat.le_of_eq hg.symm); clear hg hblk hbw hs HB)
        | (go_at_call 21; go_loud (refine (early_Times.calls A0 c0 l0 a1 a3 a4 A6 c6 l6 ev _ (Kd.C_below HR0.out HB1.out) HC0.out (Kd.C_below HR6.out HB1.out) HC6.out HEV.out).mono ?_); rintro e w2 ⟨v2, rfl, ho, hb⟩; obtain ⟨A2, c2, rfl, hle2, hc2⟩ := Kd.R_reads ho; have HB2 := Aside0.mk (below_step HB1.out hb); have HT2 := Aside0.mk (blk_below HT1.out hb); have HE2 := Aside0.mk hc2; have HL2 := Aside0.mk hle2; clear ho hb hle2 hc2 HB1 HT1)
        | (go_at_call 20; go_loud (refine (early_At.calls (ev.length + 1) A2 c2 ev a2 _ _ _ HE2.out HL2.out HAT.out).mono ?_); rintro e w3 ⟨rfl, hb⟩; have HB3 := Aside0.mk (below_step HB2.out hb); have HT3 := Aside0.mk (blk_below HT2.out hb); clear hb HB2 HT2 HE2 HL2)
        | ((with_reducible refine gate_store (t := 27) (p := 14) rfl ?_); go_loud (refine store_part 14 rfl rfl rfl rfl gt 0 _ #[.slice none 0 0, .int .i64 0] #[.slice none 0 0, .int .i64 0] HT3.out rfl (by first | rfl | (go_simp; rfl)) info27 rfl (by simp) (by simp [Value.oneCell']) (by simp) ?_); intro w9 hblk9 hg9 hs9; have HBz := Aside0.mk (below_grown_one HB3.out hg9 HGT.out); have HKz := Aside0.mk hblk9; clear hblk9 hg9 hs9))
      refine bodyPost_ret (results_ct rfl _ _ gt 27 #[.slice none 0 0, .int .i64 0] (0, 0) _ rfl HKz.out Try.underlying27 rfl (by kernel_rfl)) rfl ?_
      exact ⟨_, rfl, Kd.R_nil k56 56 _ w.heap.size (fun _ => True), HBz.out⟩
    · rw [if_neg hby] at h
      rw [Option.bind_eq_some_iff] at h
      obtain ⟨⟨n, fk⟩, hfw, h⟩ := h
      have hbd := few_bd hfw
      obtain ⟨hn, rfl⟩ := Int.eq_ofNat_of_zero_le hbd.1
      have HFW := Aside0.mk hfw
      have hfin : ∃ fin : List S56 × Bool, (if fk = true then leastGo l0 a2 a4 arr l6 hn a1 a3 [] else some ([], false)) = some fin ∧ (if fin.2 = true then (fin.1, arr, true) else ([], 0, false)) = (r1, r2, r3) := by
        cases fk
        · simp only [Bool.false_eq_true, if_false] at h ⊢
          exact ⟨_, rfl, by simpa using h⟩
        · simp only [if_true, Int.toNat_natCast, Option.map_eq_some_iff] at h ⊢
          obtain ⟨fin, h1, h2⟩ := h
          exact ⟨fin, h1, h2⟩
      obtain ⟨fin, hfin, hres⟩ := hfin
      have HFIN := Aside0.mk hfin
      have HRES := Aside0.mk hres
      have HNB := Aside0.mk hbd.2
      clear h hfw hfin hres hbd
      go_enter Try.func15, Try.ntmps15
      go_wp2_with (first
        | ((with_reducible refine gate_dst (N := 14) rfl ?_); go_loud (refine box1 14 rfl rfl rfl info27 ?_); intro gt w1 hg hblk hbw hs; have HB1 := Aside0.mk (below_step HB.out hbw); have HT1 := Aside0.mk hblk; have HGT := Aside0.mk (Nat.le_of_eq hg.symm); clear hg hblk hbw hs HB)
        | (go_at_call 21; go_loud (refine (early_Times.calls A0 c0 l0 a1 a3 a4 A6 c6 l6 ev _ (Kd.C_below HR0.out HB1.out) HC0.out (Kd.C_below HR6.out HB1.out) HC6.out HEV.out).mono ?_); rintro e w2 ⟨v2, rfl, ho, hb⟩; obtain ⟨A2, c2, rfl, hle2, hc2⟩ := Kd.R_reads ho; have HB2 := Aside0.mk (below_step HB1.out hb); have HT2 := Aside0.mk (blk_below HT1.out hb); have HE2 := Aside0.mk hc2; have HL2 := Aside0.mk hle2; clear ho hb hle2 hc2 HB1 HT1)
        | (go_at_call 20; go_loud (refine (early_At.calls (ev.length + 1) A2 c2 ev a2 _ _ _ HE2.out HL2.out HAT.out).mono ?_); rintro e w3 ⟨rfl, hb⟩; have HB3 := Aside0.mk (below_step HB2.out hb); have HT3 := Aside0.mk (blk_below HT2.out hb); clear hb HB2 HT2 HE2 HL2)
        | (go_at_call 23; go_loud (refine (late_Fewest.calls A0 c0 l0 a1 a2 a3 arr a4 A6 c6 l6 (hn : Int) fk _ (Kd.C_below HR0.out HB3.out) HC0.out (Kd.C_below HR6.out HB3.out) HC6.out HFW.out).mono ?_); rintro e w4 ⟨rfl, hb⟩; have HB4 := Aside0.mk (below_step HB3.out hb); have HT4 := Aside0.mk (blk_below HT3.out hb); clear hb HB3 HT3)
        | ((with_reducible refine gate_dst (N := 19) rfl ?_); go_loud (refine box2 19 rfl rfl rfl rfl rfl rfl #[.slice A0 l0.length c0, .int .i64 a2, .int .i64 a4, .int .i64 arr, .slice A6 l6.length c6] info58 rfl rfl (by simp [Value.oneCell']) (by first | (go_simp; done) | (go_simp; rfl)) (by first | (go_simp; done) | (go_simp; rfl)) ?_); intro gs w5 hg hblk hbw hs; have HB5 := Aside0.mk (below_step HB4.out hbw); have HT5 := Aside0.mk (blk_below HT4.out hbw); have HS5 := Aside0.mk hblk; clear hg hblk hbw hs HB4 HT4)
        | ((with_reducible refine gate_dst (N := 20) rfl ?_); go_loud (refine box2 20 rfl rfl rfl rfl rfl rfl #[.slice none 0 0, .int .i64 arr] info27 rfl rfl (by simp [Value.oneCell']) (by first | (go_simp; done) | (go_simp; rfl)) (by first | (go_simp; done) | (go_simp; rfl)) ?_); intro gr w6 hg hblk hbw hs; have HST := Aside0.mk (show LSt w w6 gs gr gt A0 c0 l0 a2 a4 arr A6 c6 l6 (.slice none 0 0) (.slice none 0 0) [] from ⟨below_step HB5.out hbw, blk_below HS5.out hbw, hblk, blk_below HT5.out hbw, Kd.R_nil _ _ _ _ _, by rw [hg]; exact HB5.out.size, HGT.out, fun e => by have := (Array.getElem?_eq_some_iff.1 HT5.out).1; omega⟩); clear hg hblk hbw hs HB5 HT5 HS5 HGT))
      go_loopg [17, 18, 21, 22, 23] hn (fun kq v17 v18 v21 v22 _ w' => ∃ (okb : Bool) (node t : Int) (acc : List S56) (vH : Value), v17 = .bool okb ∧ v18 = .int .i64 (kq : Int) ∧ v21 = .int .i64 node ∧ v22 = .int .i64 t ∧ Aside0 ((if okb = true then leastGo l0 a2 a4 arr l6 kq node t acc else some (acc, false)) = some fin) ∧ Aside0 (LSt w w' gs gr gt A0 c0 l0 a2 a4 arr A6 c6 l6 vH vH acc) ∧ Aside0 (kq + acc.length ≤ 1000001))
      case atStart => exact ⟨fk, a1, a3, [], .slice none 0 0, rfl, rfl, rfl, rfl, HFIN, HST, ⟨by have := HNB.out; simp; omega⟩⟩
      case round =>
        clear HFIN HST HNB
        obtain ⟨okb, node, t, acc, vH, rfl, rfl, rfl, rfl, HFIN, HST, HNB⟩ := hrel
        cases okb with
        | false =>
          have hfin := HFIN.out
          simp only [Bool.false_eq_true, if_false, Option.some.injEq] at hfin
          subst hfin
          have hres := HRES.out
          simp only [Bool.false_eq_true, if_false, Prod.mk.injEq] at hres
          obtain ⟨rfl, rfl, rfl⟩ := hres
          clear HRES HFIN
          have HK3 := Aside0.mk HST.out.T
          have HB3 := Aside0.mk HST.out.B
          have HGT := Aside0.mk HST.out.GT
          go_wp2_with (first
            | ((with_reducible refine gate_store (t := 27) (p := 14) rfl ?_); go_loud (refine store_part 14 rfl rfl rfl rfl gt 0 _ #[.slice none 0 0, .int .i64 0] #[.slice none 0 0, .int .i64 0] HK3.out rfl (by first | rfl | (go_simp; rfl)) info27 rfl (by simp) (by simp [Value.oneCell']) (by simp) ?_); intro w9 hblk9 hg9 hs9; have HBz := Aside0.mk (below_grown_one HB3.out hg9 HGT.out); have HKz := Aside0.mk hblk9; clear hblk9 hg9 hs9))
          refine bodyPost_ret (results_ct rfl _ _ gt 27 #[.slice none 0 0, .int .i64 0] (0, 0) _ rfl HKz.out Try.underlying27 rfl (by kernel_rfl)) rfl ?_
          exact ⟨_, rfl, Kd.R_nil k56 56 _ w.heap.size (fun _ => True), HBz.out⟩
        | true =>
          cases gk with
          | zero =>
            have hfin := HFIN.out
            simp only [if_true, leastGo, Option.some.injEq] at hfin
            subst hfin
            have hres := HRES.out
            simp only [if_true, Prod.mk.injEq] at hres
            obtain ⟨rfl, rfl, rfl⟩ := hres
            clear HRES HFIN
            obtain ⟨Ao, co, eo⟩ := Kd.R_slice HST.out.H
            subst eo
            have y0 := (blk_cell HST.out.R 0).trans rfl
            have y1 := (blk_cell HST.out.R 1).trans rfl
            go_wp2_with (first
              | ((with_reducible refine gate_store (t := 27) (p := 14) rfl ?_); go_loud (refine store_part 14 rfl rfl rfl rfl gt 0 _ #[.slice Ao acc.length co, .int .i64 arr] #[.slice Ao acc.length co, .int .i64 arr] HST.out.T rfl (by first | rfl | (go_simp; rfl)) info27 rfl (by simp) (by simp [Value.oneCell']) (by simp) ?_); intro w9 hblk9 hg9 hs9; have HBz := Aside0.mk (below_grown_one HST.out.B hg9 HST.out.GT); have HHz := Aside0.mk (R_store HST.out.H HST.out.T (by decide) hg9); have HKz := Aside0.mk hblk9; clear hblk9 hg9 hs9))
            refine bodyPost_ret (results_ct rfl _ _ gt 27 #[.slice Ao acc.length co, .int .i64 arr] (0, 0) _ rfl HKz.out Try.underlying27 rfl (by kernel_rfl)) rfl ?_
            exact ⟨_, rfl, HHz.out, HBz.out⟩
          | succ k1 =>
            have hfin := HFIN.out
            simp only [if_true] at hfin
            rw [leastGo] at hfin
            split at hfin
            · exact absurd hfin (by simp)
            rename_i i s a n ok hnx
            have HNX := Aside0.mk hnx
            have HF2 := Aside0.mk (show (if ok = true then leastGo l0 a2 a4 arr l6 k1 n a (acc ++ [⟨i, s, a⟩]) else some (acc ++ [⟨i, s, a⟩], false)) = some fin from hfin)
            have HLX := Aside0.mk (show (acc.length + 1) * 24 ≤ 140737488355328 by have := HNB.out; omega)
            have HN2 := Aside0.mk (show k1 + (acc ++ [(⟨i, s, a⟩ : S56)]).length ≤ 1000001 by have := HNB.out; simp; omega)
            have hk1 : (k1 : Int) ≤ 1000001 := by have := HNB.out; omega
            clear hfin hnx HFIN HNB
            obtain ⟨Ao, co, eo⟩ := Kd.R_slice HST.out.H
            subst eo
            have x0 := (blk_cell HST.out.S 0).trans rfl
            have x1 := (blk_cell HST.out.S 1).trans rfl
            have x2 := (blk_cell HST.out.S 2).trans rfl
            have x3 := (blk_cell HST.out.S 3).trans rfl
            have x4 := (blk_cell HST.out.S 4).trans rfl
            go_wp2_with (first
              | ((with_reducible refine gate_dst (N := 23) rfl ?_); go_loud (refine box1 23 rfl rfl rfl info56 ?_); intro gh w4 hg hblk hbw hs; have HKN := Aside0.mk (R_new_ne HST.out.H hg); have HNE := Aside0.mk (show gs ≠ gh ∧ gr ≠ gh ∧ gt ≠ gh by rw [hg]; exact HST.out.lt); have HGH := Aside0.mk (show w.heap.size ≤ gh by rw [hg]; exact HST.out.B.size); have HS4 := Aside0.mk (HST.out.below hbw); have HK4 := Aside0.mk hblk; have z0 := (blk_cell HS4.out.S 0).trans rfl; have z1 := (blk_cell HS4.out.S 1).trans rfl; have z2 := (blk_cell HS4.out.S 2).trans rfl; have z3 := (blk_cell HS4.out.S 3).trans rfl; have z4 := (blk_cell HS4.out.S 4).trans rfl; clear hg hblk hbw hs x0 x1 x2 x3 x4 HST)
              | (go_at_call 34; go_loud (refine (least_search_next.calls (leastK l0 l6) A0 c0 l0 a2 a4 arr A6 c6 l6 node t (k1 : Int) i s a n ok _ (Kd.C_below HR0.out HS4.out.B) HC0.out (Kd.C_below HR6.out HS4.out.B) HC6.out HNX.out).mono ?_); rintro e w5 ⟨rfl, hb⟩; have HS5 := Aside0.mk (HS4.out.below hb); have HK5 := Aside0.mk (blk_below HK4.out hb); clear hb HS4 HK4 z0 z1 z2 z3 z4)
              | ((with_reducible refine gate_store (t := 56) (p := 23) rfl ?_); go_loud (refine store_part 23 rfl rfl rfl rfl gh 0 _ #[.int .i64 i, .int .i64 s, .int .i64 a] #[.int .i64 i, .int .i64 s, .int .i64 a] HK5.out rfl (by first | rfl | (go_simp; rfl)) info56 rfl (by simp) (by simp [Value.oneCell']) (by simp) ?_); intro w6 hblk6 hg6 hs6; have HS6 := Aside0.mk (HS5.out.other hg6 HNE.out HKN.out HGH.out); have HK6 := Aside0.mk hblk6; clear hblk6 hg6 hs6 HS5 HK5))
            refine start_ (n := 10) (S := fun w' => w'.cell? ⟨gh, 0, none⟩ = some (.int .i64 i) ∧ w'.cell? ⟨gh, 1, none⟩ = some (.int .i64 s) ∧ w'.cell? ⟨gh, 2, none⟩ = some (.int .i64 a)) (ds := []) #[false, false, false, false, false, false, false, false, false, false] (by kernel_rfl) rfl rfl ⟨(blk_cell HK6.out 0).trans rfl, (blk_cell HK6.out 1).trans rfl, (blk_cell HK6.out 2).trans rfl⟩ (fun hHeld => ?_)
            refine pure_ (i := 0) (N := (some 81)) (v := ?_) (a' := ?_) #[true, false, false, false, false, false, false, false, false, false] rfl rfl (by kernel_rfl) (fun _ _ _ h => h) (Or.inl ⟨by rfl, ?_⟩) ?_ ?_
            rotate_left
            · intro w'
              go_simp
              with_reducible rfl
            rotate_left
            · simp only [Act.put, List.setIfInBounds_toArray, List.set_cons_zero, List.set_cons_succ, i64_w, i32_w]
              rfl
            refine take_ (i := 2) (N := (some 83)) (v := ?_) (a' := ?_) #[true, false, true, false, false, false, false, false, false, false] rfl rfl (by kernel_rfl) (fun _ _ _ h => h) (Or.inl ⟨by rfl, ?_⟩) hHeld ?_ ?_
            rotate_left
            · rintro w' ⟨s1, s2, s3⟩
              go_simp
              with_reducible rfl
            rotate_left
            · simp only [Act.put, List.setIfInBounds_toArray, List.set_cons_zero, List.set_cons_succ, i64_w, i32_w]
              rfl
            refine pure_ (i := 5) (N := (some 86)) (v := ?_) (a' := ?_) #[true, false, true, false, false, true, false, false, false, false] rfl rfl (by kernel_rfl) (fun _ _ _ h => h) (Or.inl ⟨by rfl, ?_⟩) ?_ ?_
            rotate_left
            · intro w'
              go_simp
              with_reducible rfl
            rotate_left
            · simp only [Act.put, List.setIfInBounds_toArray, List.set_cons_zero, List.set_cons_succ, i64_w, i32_w]
              rfl
            refine take_ (i := 6) (N := (some 87)) (v := ?_) (a' := ?_) #[true, false, true, false, false, true, true, false, false, false] rfl rfl (by kernel_rfl) (fun _ _ _ h => h) (Or.inl ⟨by rfl, ?_⟩) hHeld ?_ ?_
            rotate_left
            · rintro w' ⟨s1, s2, s3⟩
              go_simp
              with_reducible rfl
            rotate_left
            · simp only [Act.put, List.setIfInBounds_toArray, List.set_cons_zero, List.set_cons_succ, i64_w, i32_w]
              rfl
            refine join_ (σ := Unit) 4 #[true, true, true, true, false, true, true, false, false, false] (fun _ => [(82, .slice Ao acc.length co), (84, .slice (some ⟨w6.heap.size, 0, none⟩) 1 1)]) (fun _ w' => w' = w6.drew.alloc (.cells #[.int .i64 i, .int .i64 s, .int .i64 a] 56)) ?_ (fun hc => ?_)
            rotate_left
            · have g0 := (blk_cell HS6.out.R 0).trans rfl
              have g1 := pw_cell_below (below_alloc (Below.refl w6.heap.size w6) (.cells #[.int .i64 i, .int .i64 s, .int .i64 a] 56)) g0
              refine two_ (i := 1) (j := 3) (Ni := some 82) (Nj := some 84) #[true, true, true, false, false, true, true, false, false, false] #[true, false, true, true, false, true, true, false, false, false] rfl rfl rfl rfl (by kernel_rfl) (by decide) (by decide) ?_ ?_
              · intro K hK
                rw [if_pos (by rfl)]
                go_simp
                refine hK.out _ _ ⟨hHeld.1, hHeld.2.1, hHeld.2.2⟩ (fun hHeld => ?_)
                clear hK K
                refine norm_ (a' := ?_) ?_ ?_
                rotate_left
                · first | (show Act.put _ (some 82) _ = _; simp only [Act.put, List.setIfInBounds_toArray, List.set_cons_zero, List.set_cons_succ, i64_w, i32_w]; rfl) | rfl
                refine one_ (i := 3) (N := (some 84)) #[true, true, true, true, false, true, true, false, false, false] rfl rfl (by kernel_rfl) (by decide) (fun K hK => ?_)
                rw [if_pos (by rfl)]
                go_simp
                refine hK.out _ _ ⟨pw_cell_below (below_alloc (Below.refl _ _) _) hHeld.1, pw_cell_below (below_alloc (Below.refl _ _) _) hHeld.2.1, pw_cell_below (below_alloc (Below.refl _ _) _) hHeld.2.2⟩ (fun hHeld => ?_)
                clear hK K
                refine norm_ (a' := ?_) ?_ ?_
                rotate_left
                · first | (show Act.put _ (some 84) _ = _; simp only [Act.put, List.setIfInBounds_toArray, List.set_cons_zero, List.set_cons_succ, i64_w, i32_w]; rfl) | rfl
                exact hc () _ rfl
              · intro K hK
                rw [if_pos (by rfl)]
                go_simp
                refine hK.out _ _ ⟨pw_cell_below (below_alloc (Below.refl _ _) _) hHeld.1, pw_cell_below (below_alloc (Below.refl _ _) _) hHeld.2.1, pw_cell_below (below_alloc (Below.refl _ _) _) hHeld.2.2⟩ (fun hHeld => ?_)
                clear hK K
                refine norm_ (a' := ?_) ?_ ?_
                rotate_left
                · first | (show Act.put _ (some 84) _ = _; simp only [Act.put, List.setIfInBounds_toArray, List.set_cons_zero, List.set_cons_succ, i64_w, i32_w]; rfl) | rfl
                refine one_ (i := 1) (N := (some 82)) #[true, true, true, true, false, true, true, false, false, false] rfl rfl (by kernel_rfl) (by decide) (fun K hK => ?_)
                rw [if_pos (by rfl)]
                go_simp
                refine hK.out _ _ ⟨hHeld.1, hHeld.2.1, hHeld.2.2⟩ (fun hHeld => ?_)
                clear hK K
                refine norm_ (a' := ?_) ?_ ?_
                rotate_left
                · first | (show Act.put _ (some 82) _ = _; simp only [Act.put, List.setIfInBounds_toArray, List.set_cons_zero, List.set_cons_succ, i64_w, i32_w]; rfl) | rfl
                exact hc () _ rfl
            rintro _ _ rfl
            refine norm_ (a' := ?_) ?_ ?_
            rotate_left
            · show putAll _ [(82, _), (84, _)] = _
              simp only [putAll, Act.put, List.setIfInBounds_toArray, List.set_cons_zero, List.set_cons_succ]
              rfl
            refine one_ (i := 4) (N := (some 85)) #[true, true, true, true, true, true, true, false, false, false] rfl rfl (by kernel_rfl) (by decide) (fun K hK => ?_)
            rw [if_pos (by rfl)]
            refine append_any k56 (w0 := w) (W := w6.drew) w.heap.size ?h1 (.tmp 82) (.tmp 84) 25 56 (.agg #[.int .i64 0, .int .i64 0, .int .i64 0]) 24 ?h2 Try.underlying25 info56 rfl (by decide) (by decide) (.slice Ao acc.length co) acc ⟨i, s, a⟩ [.int .i64 i, .int .i64 s, .int .i64 a] (fun _ => True) (fun _ => False) ?h8 ?h9 (k56_mkM _ _ _ ⟨i, s, a⟩) (fun _ hk => hk.elim) (fun _ _ => trivial) (Kd.R_drew HS6.out.H) (below_drew1 HS6.out.B) (below_size (below_drew1 HS6.out.B)) HLX.out ?h17 ?h18
            case h1 => rfl
            case h2 => rfl
            case h8 => rfl
            case h9 => rfl
            case h17 => rfl
            intro v7 w7 ho7 hb7 hg7 hat7
            obtain ⟨A7, c7, e7⟩ := Kd.R_slice ho7
            subst e7
            have HS7 := Aside0.mk (show LSt w w7 gs gr gt A0 c0 l0 a2 a4 arr A6 c6 l6 (.slice Ao acc.length co) (.slice A7 (acc ++ [(⟨i, s, a⟩ : S56)]).length c7) (acc ++ [⟨i, s, a⟩]) from HS6.out.app ho7 hb7 hg7)
            have HK7 := Aside0.mk (blk_grown (blk_drew HK6.out) hg7 HKN.out)
            refine hK.out _ _ ⟨(blk_cell HK7.out 0).trans rfl, (blk_cell HK7.out 1).trans rfl, (blk_cell HK7.out 2).trans rfl⟩ (fun hHeld => ?_)
            clear hb7 ho7 hg7 hat7
            clear hK K
            refine norm_ (a' := ?_) ?_ ?_
            rotate_left
            · first | (show Act.put _ (some 85) _ = _; simp only [Act.put, List.setIfInBounds_toArray, List.set_cons_zero, List.set_cons_succ, i64_w, i32_w]; rfl) | rfl
            refine pure_ (i := 7) (N := (some 88)) (v := ?_) (a' := ?_) #[true, true, true, true, true, true, true, true, false, false] rfl rfl (by kernel_rfl) (fun _ _ _ h => h) (Or.inl ⟨by rfl, ?_⟩) ?_ ?_
            rotate_left
            · intro w'
              go_simp
              with_reducible rfl
            rotate_left
            · simp only [Act.put, List.setIfInBounds_toArray, List.set_cons_zero, List.set_cons_succ, i64_w, i32_w]
              rfl
            refine one_ (i := 8) (N := none) #[true, true, true, true, true, true, true, true, true, false] rfl rfl (by kernel_rfl) (by decide) (fun K hK => ?_)
            refine store_step (by rfl) rfl rfl gr 0 _ #[.slice A7 (acc ++ [(⟨i, s, a⟩ : S56)]).length c7] #[.slice A7 (acc ++ [(⟨i, s, a⟩ : S56)]).length c7, .int .i64 arr] HS7.out.R (by rfl) (by rfl) info25 rfl (by simp) (by simp [Value.oneCell']) (by simp) ?_
            intro w8 hblk8 hg8 hs8
            have HS8 := Aside0.mk (HS7.out.store hblk8 hg8)
            have HK8 := Aside0.mk (blk_grown HK7.out hg8 (fun e => by injection e with e; exact HNE.out.2.1 e.symm))
            refine hK.out _ _ ⟨(blk_cell HK8.out 0).trans rfl, (blk_cell HK8.out 1).trans rfl, (blk_cell HK8.out 2).trans rfl⟩ (fun hHeld => ?_)
            clear hblk8 hg8 hs8
            clear hK K
            refine norm_ (a' := ?_) ?_ ?_
            rotate_left
            · first | (show Act.put _ none _ = _; simp only [Act.put, List.setIfInBounds_toArray, List.set_cons_zero, List.set_cons_succ, i64_w, i32_w]; rfl) | rfl
            refine pure_ (i := 9) (N := (some 22)) (v := ?_) (a' := ?_) #[true, true, true, true, true, true, true, true, true, true] rfl rfl (by kernel_rfl) (fun _ _ _ h => h) (Or.inl ⟨by rfl, ?_⟩) ?_ ?_
            rotate_left
            · intro w'
              go_simp
              with_reducible rfl
            rotate_left
            · simp only [Act.put, List.setIfInBounds_toArray, List.set_cons_zero, List.set_cons_succ, i64_w, i32_w]
              rfl
            refine done_ (by kernel_rfl) ?_
            go_wp2
            go_roundg k1
            case measure => omega
            case rel => exact ⟨ok, n, a, _, _, rfl, by first | rfl | (simp; done) | (go_num; done), rfl, rfl, HF2, HS8, HN2⟩
end Go.Proofs.Ytijflnpgiegajaa.Q
end
section
namespace Go.Proofs.Ytijflnpgiegajaa.Q
open Go.RowKit Go.Proofs.YtijflnpgiegajaaW.PrintWords Go.Proofs.YtijflnpgiegajaaW.PrintLast Go.Proofs.YtijflnpgiegajaaW.PrintMore Go.Proofs.Ytijflnpgiegajaa.IM Go.Proofs.Ytijflnpgiegajaa.Ev
set_option linter.unusedVariables false
set_option linter.unusedSimpArgs false
def arriveT (now : Int) (h : List S56) : Int := h.foldl (fun _ x => x.f2) now
theorem walk_ends {l : List S65} {ids : List Int} {frm now size : Int} {h : List S56} (hw : walkP l ids frm now size = some h) : ∃ s, endsP l ids frm = some (frm :: s) ∧ s.length ≤ ids.length := by
  unfold walkP at hw
  simp only at hw
  split at hw
  · rename_i hc
    refine ⟨(stepsGo (byId l) ids frm []).1.map (·.f2), ?_, ?_⟩
    · unfold endsP
      simp only
      rw [if_pos ⟨hc.2.1, hc.2.2.2.2, hc.1⟩]
    · have := stepsGo_len (byId l) ids frm []
      simpa using this
  · simp at hw
theorem getLast_rd (frm : Int) (s : List Int) (dst : Int) : (frm :: s).getLast? = some dst ↔ rd (frm :: s) (s.length : Int) = dst := by
  rw [List.getLast?_eq_getElem?]
  simp [rd, List.getD_eq_getElem?_getD]
theorem zero4 : (Try.prog.info? 4).map (fun i => i.zero) = some (some (.bool false)) := by kernel_rfl
end Go.Proofs.Ytijflnpgiegajaa.Q
end
section
namespace Go.Proofs.Ytijflnpgiegajaa.Q
open Go.RowKit Go.Proofs.YtijflnpgiegajaaW.PrintWords Go.Proofs.YtijflnpgiegajaaW.PrintLast Go.Proofs.YtijflnpgiegajaaW.PrintMore Go.Proofs.Ytijflnpgiegajaa.IM
set_option linter.unusedVariables false
set_option linter.unusedSimpArgs false
def hopsT (size : Int) : List S65 → Int → List S56
  | [], _ => []
  | e :: r, t => ⟨e.f0, sendAt e t, thereAt e t size⟩ :: hopsT size r (thereAt e t size)
theorem hopsT_ids (size : Int) : ∀ (es : List S65) (t : Int), (hopsT size es t).map (·.f0) = es.map (·.f0)
  | [], t => rfl
  | e :: r, t => by simp only [hopsT, List.map_cons, hopsT_ids size r]
theorem hopsT_len (size : Int) (es : List S65) (t : Int) : (hopsT size es t).length = es.length := by
  have := congrArg List.length (hopsT_ids size es t)
  simpa using this
theorem hopsT_append (size : Int) : ∀ (xs ys : List S65) (t : Int), hopsT size (xs ++ ys) t = hopsT size xs t ++ hopsT size ys (endT size xs t)
  | [], ys, t => rfl
  | e :: r, ys, t => by simp only [List.cons_append, hopsT, hopsT_append size r, endT]
theorem hopsT_arrive (size : Int) : ∀ (es : List S65) (t : Int), arriveT t (hopsT size es t) = endT size es t
  | [], t => rfl
  | e :: r, t => hopsT_arrive size r _
theorem way_walkT {l : List S65} {size : Int} {sh : List Int} : ∀ (es : List S65) (a t b : Int), Way l size sh es a t b → walkT es t size = some (hopsT size es t)
  | [], a, t, b, _ => rfl
  | e :: r, a, t, b, h => by
    obtain ⟨_, _, _, h4, h5⟩ := h
    rw [walkT, if_pos h4, way_walkT r _ _ b h5]
    rfl
theorem atT_rowT {T : List (Int × Int)} (hn : (T.map (·.1)).Nodup) (n : Int) : atT (rowT T) n = aget T n := by
  have hk : ((rowT T).map (·.f0)).Nodup := by
    have := ((sortR_perm (T.map pairR)).map (·.f0)).nodup_iff.2
    exact this (by rw [pairR_keys]; exact hn)
  apply Option.ext
  intro x
  rw [atT_mem hk]
  constructor
  · rintro ⟨y, hy, h1, h2⟩
    have hy' := (sortR_perm (T.map pairR)).mem_iff.1 hy
    obtain ⟨p, hp, rfl⟩ := List.mem_map.1 hy'
    refine aget_of_mem hn ?_
    rw [← h1, ← h2]
    exact hp
  · intro h
    refine ⟨⟨n, x⟩, (sortR_perm (T.map pairR)).mem_iff.2 (List.mem_map.2 ⟨(n, x), aget_some_mem h, rfl⟩), rfl, rfl⟩
def nextB (times : List S71) (dst size now : Int) (sh : List Int) (e : S65) : Bool :=
  decide (PassP e now size) && (match atT times e.f2 with | some x => decide (thereAt e now size ≤ x) | none => false) && (decide (e.f2 = dst) || decide (e.f2 ∉ sh))
def nextR (size now : Int) : Option S65 → Int × Int × Int × Int × Bool
  | some e => (e.f0, sendAt e now, thereAt e now size, e.f2, true)
  | none => (0, 0, 0, 0, false)
theorem next_l0 (now : Int) (times : List S71) (es l : List S65) (dst size b : Int) (sh : List Int) (hel : es.length ≤ 1000000) (htl : times.length ≤ 1000000) (hsl : sh.length ≤ 1000000) : ∀ (d i k : Nat), i + d = es.length → d + times.length + sh.length + 2 < k →
    least_search_next.l0 k now times es (es.length : Int) (i : Int) l dst size b sh = some (nextR size now ((es.drop i).find? (nextB times dst size now sh)))
  | 0, i, k, hd, hk => by
    obtain ⟨k, rfl⟩ : ∃ m, k = m + 1 := ⟨k - 1, by omega⟩
    rw [least_search_next.l0, if_neg (by omega), List.drop_eq_nil_of_le (by omega)]
    rfl
  | d + 1, i, k, hd, hk => by
    obtain ⟨k, rfl⟩ : ∃ m, k = m + 1 := ⟨k - 1, by omega⟩
    obtain ⟨k, rfl⟩ : ∃ m, k = m + 1 := ⟨k - 1, by omega⟩
    have hi : i < es.length := by omega
    have ih := next_l0 now times es l dst size b sh hel htl hsl d (i + 1) (k + 1) (by omega) (by omega)
    rw [least_search_next.l0, if_pos (by omega), if_pos (by omega), if_pos (by omega), hop_Pass_eq, rd65 es i hi, wrap_succ i hi hel, early_At_eq times htl (k + 1) (by omega), slices_Contains_eq sh hsl (k + 1) (by omega), ih, List.drop_eq_getElem_cons hi, List.find?_cons]
    simp only [Option.bind_some]
    unfold nextB
    by_cases hp : PassP es[i] now size
    · simp only [if_pos hp, decide_eq_true hp, if_true, Bool.true_and]
      cases hq : atT times es[i].f2 with
      | none => simp
      | some x =>
        simp only [if_true]
        by_cases hx : thereAt es[i] now size ≤ x
        · simp only [if_pos hx, decide_eq_true hx, Bool.true_and]
          by_cases hd : es[i].f2 = dst
          · simp [hd, nextR]
          · by_cases hc : es[i].f2 ∈ sh
            · simp [hd, hc, nextR]
            · simp [hd, hc, nextR]
        · simp [hx]
    · simp [if_neg hp, hp]
theorem next_eq {l : List S65} {dst size b : Int} {sh : List Int} (hl : l.length ≤ 900) (hs : sh.length ≤ 1000000) (hA : Asked l dst b size) (node t : Int) (h : Nat) (hh : h ≤ l.length) :
    least_search_next.f (leastK l sh) l dst size b sh node t (h : Int) = some (nextR size t ((l.filter (fun e => decide (e.f1 = node))).find? (nextB (rowT (itT l dst size sh h [(dst, b)])) dst size t sh))) := by
  unfold least_search_next.f late_Times.f
  rw [if_pos ⟨by omega, hs⟩, if_neg (fun q => q.elim (fun q => by omega) (fun q => q hA)), show (min (h : Int) (l.length : Int)).toNat = h from by omega]
  have hk : l.length * l.length + l.length + sh.length + 10 = leastK l sh := rfl
  rw [view_From_eq l (by omega) _ (by omega) node]
  simp only [Option.bind_some]
  have hlen : (rowT (itT l dst size sh h [(dst, b)])).length ≤ 1 + l.length * l.length := by
    have h1 := (sortR_perm ((itT l dst size sh h [(dst, b)]).map pairR)).length_eq
    have h2 := (itT_ok l dst size sh h [(dst, b)] (by simp)).2.1
    have h3 : h * l.length ≤ l.length * l.length := Nat.mul_le_mul_right _ hh
    unfold rowT
    rw [h1, List.length_map]
    simp at h2
    omega
  have hq : l.length * l.length ≤ 900 * 900 := Nat.mul_le_mul hl hl
  have hf : (l.filter (fun e => decide (e.f1 = node))).length ≤ l.length := List.length_filter_le _ _
  have := next_l0 t (rowT (itT l dst size sh h [(dst, b)])) (l.filter (fun e => decide (e.f1 = node))) l dst size b sh (by omega) (by omega) hs _ 0 (leastK l sh) (Nat.zero_add _) (by omega)
  rw [show ((0 : Nat) : Int) = 0 from rfl] at this
  rw [this]
  rfl
theorem nextB_iff {l : List S65} {dst size b t : Int} {sh : List Int} {h : Nat} (hb : TimeP b) (h0 : 0 ≤ t) (e : S65) : nextB (rowT (itT l dst size sh h [(dst, b)])) dst size t sh e = true ↔ PassP e t size ∧ Reach l size sh dst b h e.f2 (thereAt e t size) ∧ e.f2 ∉ shE sh dst := by
  have hn := (itT_ok l dst size sh h [(dst, b)] (by simp)).1
  unfold nextB
  rw [atT_rowT hn]
  simp only [Bool.and_eq_true, decide_eq_true_eq, Bool.or_eq_true]
  have hs : (e.f2 = dst ∨ e.f2 ∉ sh) ↔ e.f2 ∉ shE sh dst := by
    rw [mem_shE]
    exact ⟨fun q g => q.elim (fun a => g.2 a) (fun a => a g.1), fun q => by
      by_cases a : e.f2 = dst
      · exact .inl a
      · exact .inr (fun c => q ⟨c, a⟩)⟩
  rw [hs]
  constructor
  · rintro ⟨⟨h1, h2⟩, h3⟩
    refine ⟨h1, ?_, h3⟩
    have hg := there_ge h1
    refine ((late_inv hb h).2.2 e.f2 _ (by omega)).1 ?_
    cases hq : aget (itT l dst size sh h [(dst, b)]) e.f2 with
    | none => rw [hq] at h2; exact absurd h2 (by simp)
    | some x => rw [hq] at h2; exact ⟨x, hq, by simpa using h2⟩
  · rintro ⟨h1, h2, h3⟩
    have hg := there_ge h1
    obtain ⟨x, hx, hle⟩ := ((late_inv hb h).2.2 e.f2 _ (by omega)).2 h2
    refine ⟨⟨h1, ?_⟩, h3⟩
    rw [hx]
    simpa using hle
theorem rightL_pair : ∀ {l : List S65}, RightL l → l.Pairwise (fun a b => a.f0 < b.f0)
  | [], _ => List.Pairwise.nil
  | [e], _ => by simp
  | e :: e' :: r, h => by
    have ih := rightL_pair h.2.2
    rw [List.pairwise_cons]
    refine ⟨fun x hx => ?_, ih⟩
    rcases List.mem_cons.1 hx with rfl | hx
    · exact h.2.1
    · have := (List.pairwise_cons.1 ih).1 x hx
      have := h.2.1
      omega
theorem find_least {p : S65 → Bool} : ∀ {l : List S65}, l.Pairwise (fun a b => a.f0 < b.f0) → ∀ {e0 : S65}, l.find? p = some e0 → ∀ e ∈ l, p e = true → e0 = e ∨ e0.f0 < e.f0
  | [], _, e0, h, e, he, _ => by simp at he
  | a :: r, hp, e0, h, e, he, hpe => by
    rw [List.pairwise_cons] at hp
    rw [List.find?_cons] at h
    cases hq : p a with
    | true =>
      rw [hq] at h
      injection h with h
      subst h
      rcases List.mem_cons.1 he with rfl | he
      · exact .inl rfl
      · exact .inr (hp.1 e he)
    | false =>
      rw [hq] at h
      rcases List.mem_cons.1 he with rfl | he
      · rw [hq] at hpe; exact absurd hpe (by simp)
      · exact find_least hp.2 h e he hpe
def lexLe : List Int → List Int → Prop
  | [], _ => True
  | _ :: _, [] => False
  | a :: r, b :: s => a < b ∨ (a = b ∧ lexLe r s)
theorem leastGo_ok {l : List S65} {dst size b : Int} {sh : List Int} (hl : l.length ≤ 900) (hs : sh.length ≤ 1000000) (hA : Asked l dst b size) : ∀ (h : Nat) (node t : Int) (acc : List S56), 0 ≤ t → h ≤ l.length → Reach l size sh dst b h node t → (∀ i, i < h → ¬ Reach l size sh dst b i node t) →
    ∃ es, es.length = h ∧ Way l size (shE sh dst) es node t dst ∧ endT size es t ≤ b ∧ leastGo l dst size b sh h node t acc = some (acc ++ hopsT size es t, true) ∧ ∀ es', Way l size (shE sh dst) es' node t dst → endT size es' t ≤ b → es'.length = h → lexLe (es.map (·.f0)) (es'.map (·.f0))
  | 0, node, t, acc, h0, hh, hr, hn => by
    obtain ⟨es, hle, hw, he⟩ := hr
    have : es = [] := List.eq_nil_of_length_eq_zero (by omega)
    subst this
    exact ⟨[], rfl, hw, he, by simp [leastGo, hopsT], fun es' _ _ _ => trivial⟩
  | h + 1, node, t, acc, h0, hh, hr, hn => by
    have hpw := (rightL_pair hA.2.2.2).filter (fun e => decide (e.f1 = node))
    
    have key : ∀ es, Way l size (shE sh dst) es node t dst → endT size es t ≤ b → es.length = h + 1 → ∃ e r, es = e :: r ∧ e ∈ l.filter (fun e => decide (e.f1 = node)) ∧ nextB (rowT (itT l dst size sh h [(dst, b)])) dst size t sh e = true ∧ Way l size (shE sh dst) r e.f2 (thereAt e t size) dst ∧ r.length = h := by
      intro es hw he hlen
      cases es with
      | nil => simp at hlen
      | cons e r =>
        obtain ⟨g1, g2, g3, g4, g5⟩ := hw
        have hrl : r.length = h := by simpa using hlen
        exact ⟨e, r, rfl, List.mem_filter.2 ⟨g1, by simp [g2]⟩, (nextB_iff hA.2.1 h0 e).2 ⟨g4, ⟨r, by omega, g5, he⟩, g3⟩, g5, hrl⟩
    have hex : ∃ es, Way l size (shE sh dst) es node t dst ∧ endT size es t ≤ b ∧ es.length = h + 1 := by
      obtain ⟨es, hle, hw, he⟩ := hr
      refine ⟨es, hw, he, ?_⟩
      by_cases hq : es.length = h + 1
      · exact hq
      · exact absurd ⟨es, by omega, hw, he⟩ (hn h (by omega))
    obtain ⟨es1, hw1, he1, hlen1⟩ := hex
    obtain ⟨e1, r1, rfl, hm1, hb1, hwr1, hrl1⟩ := key es1 hw1 he1 hlen1
    have hsome : ((l.filter (fun e => decide (e.f1 = node))).find? (nextB (rowT (itT l dst size sh h [(dst, b)])) dst size t sh)).isSome := by
      rw [List.find?_isSome]
      exact ⟨e1, hm1, hb1⟩
    obtain ⟨e0, he0⟩ := Option.isSome_iff_exists.1 hsome
    have hp0 := List.find?_some he0
    have hm0 := List.mem_of_find?_eq_some he0
    rw [List.mem_filter, decide_eq_true_eq] at hm0
    have hi0 := (nextB_iff hA.2.1 h0 e0).1 hp0
    have hg0 := there_ge hi0.1
    have hn0 : ∀ i, i < h → ¬ Reach l size sh dst b i e0.f2 (thereAt e0 t size) := fun i hi ⟨r, hrl, hw, he⟩ =>
      hn (i + 1) (by omega) ⟨e0 :: r, by simp; omega, ⟨hm0.1, hm0.2, hi0.2.2, hi0.1, hw⟩, he⟩
    obtain ⟨r0, hlen0, hw0, hend0, hgo0, hmin0⟩ := leastGo_ok hl hs hA h e0.f2 (thereAt e0 t size) (acc ++ [⟨e0.f0, sendAt e0 t, thereAt e0 t size⟩]) (by omega) (by omega) hi0.2.1 hn0
    refine ⟨e0 :: r0, by simp [hlen0], ⟨hm0.1, hm0.2, hi0.2.2, hi0.1, hw0⟩, hend0, ?_, ?_⟩
    · unfold leastGo
      rw [next_eq hl hs hA node t h (by omega), he0]
      simp only [nextR, if_true]
      rw [hgo0]
      simp [hopsT]
    · intro es' hw' he' hlen'
      obtain ⟨e, r, rfl, hm, hb', hwr, hrl⟩ := key es' hw' he' hlen'
      rcases find_least hpw he0 e hm hb' with rfl | hlt
      · exact .inr ⟨rfl, hmin0 r hwr he' hrl⟩
      · exact .inl hlt
structure RouteE (l : List S65) (size : Int) (sh : List Int) (frm now dst by_ : Int) (es : List S65) : Prop where
  asked : Asked l frm now size
  node : NodeP dst
  way : Way l size sh es frm now dst
  nodup : (frm :: es.map (·.f2)).Nodup
  time : endT size es now ≤ by_
def keyLe (size now : Int) (es es' : List S65) : Prop := endT size es now < endT size es' now ∨ (endT size es now = endT size es' now ∧ (es.length < es'.length ∨ (es.length = es'.length ∧ lexLe (es.map (·.f0)) (es'.map (·.f0)))))
theorem way_end {l : List S65} {size : Int} {sh : List Int} : ∀ (es : List S65) (a t b : Int), es ≠ [] → Way l size sh es a t b → b ∉ sh
  | [], a, t, b, h, _ => absurd rfl h
  | [e], a, t, b, _, h => by
    obtain ⟨_, _, h3, _, h5⟩ := h
    cases h5
    exact h3
  | e :: e' :: r, a, t, b, _, h => way_end (e' :: r) _ _ b (by simp) h.2.2.2.2
theorem least_spec {l : List S65} {frm dst now size by_ : Int} {sh : List Int} (hl : l.length ≤ 900) (hs : sh.length ≤ 1000000) :
    (least_Route.f l frm dst now size by_ sh = some ([], 0, false) ∧ ∀ es, ¬ RouteE l size sh frm now dst by_ es) ∨
    ∃ es, RouteE l size sh frm now dst by_ es ∧ least_Route.f l frm dst now size by_ sh = some (hopsT size es now, endT size es now, true) ∧ ∀ es', RouteE l size sh frm now dst by_ es' → keyLe size now es es' := by
  obtain ⟨ev, hev, hlen, hyes, hno⟩ := early_ok (l := l) (frm := frm) (now := now) (size := size) (sh := sh) (by omega) hs
  unfold least_Route.f
  rw [if_pos ⟨by omega, hs⟩, hev]
  simp only [Option.bind_some]
  rw [if_pos (by omega)]
  by_cases hA : Asked l frm now size
  · obtain ⟨hE, hall⟩ := hyes hA
    have h0 : 0 ≤ now := hA.2.1.1
    cases hq : atT ev dst with
    | none =>
      refine .inl ⟨rfl, fun es hr => ?_⟩
      obtain ⟨x, hx, _⟩ := hall es dst hr.way
      rw [hq] at hx
      exact absurd hx (by simp)
    | some arr =>
      obtain ⟨⟨es0, hw0, he0⟩, hmin⟩ := (hE dst arr).1 hq
      simp only
      by_cases hby : arr > by_
      · rw [if_pos hby]
        refine .inl ⟨rfl, fun es hr => ?_⟩
        have := hmin es hr.way
        have := hr.time
        omega
      · rw [if_neg hby]
        have harr : TimeP arr := he0 ▸ (endT_ge es0 _ _ _ hw0).2 hA.2.1
        unfold late_Fewest.f
        rw [if_pos ⟨by omega, hs⟩]
        by_cases hN : NodeP dst
        · have hA2 : Asked l dst arr size := ⟨hN, harr, hA.2.2.1, hA.2.2.2⟩
          rw [if_neg (fun q => q.elim (fun q => q hA) (fun q => q hA2))]
          simp only [Option.bind_some]
          have toE : ∀ es, Way l size sh es frm now dst → Way l size (shE sh dst) es frm now dst := fun es hw => way_sub es _ _ _ (fun e _ he hn => ⟨he, fun q => hn (mem_shE.1 q).1⟩) hw
          have hreach : ∀ es, Way l size sh es frm now dst → endT size es now ≤ arr → Reach l size sh dst arr es.length frm now := fun es hw he => ⟨es, Nat.le_refl _, toE es hw, he⟩
          obtain ⟨es1, hl1, hw1, he1, hn1, _⟩ := way_simple es0 _ _ _ h0 hw0
          have hr1 := hreach es1 hw1 (by omega)
          have hs1 := way_short hw1 hn1
          rcases few_spec (l := l) (size := size) (sh := sh) (dst := dst) harr h0 (l.length + 1) 0 (fun i hi => by omega) with ⟨j, hj, hrj, hnj, hfj⟩ | ⟨hnone, _⟩
          · have hfj' : fewGo l dst size sh frm now (l.length + 1) 0 [(dst, arr)] = ((j : Int), true) := hfj
            rw [hfj']
            simp only [if_true, Int.toNat_natCast]
            have hjl : j ≤ l.length := by omega
            obtain ⟨es, hlen, hw, he, hgo, hlex⟩ := leastGo_ok hl hs hA2 j frm now [] h0 hjl hrj hnj
            have hws : Way l size sh es frm now dst := by
              by_cases hnil : es = []
              · subst hnil
                exact hw
              · have hne0 : es0 ≠ [] := fun q => by
                  subst q
                  have : j = 0 := by
                    rcases Nat.eq_zero_or_pos j with q | q
                    · exact q
                    · exact absurd (hreach [] hw0 (by omega)) (hnj 0 q)
                  exact hnil (List.eq_nil_of_length_eq_zero (by omega))
                have hd := way_end es0 _ _ _ hne0 hw0
                refine way_sub es _ _ _ (fun e _ he hn => ⟨he, fun q => hn (mem_shE.2 ⟨q, fun g => hd (by rw [← g]; exact q)⟩)⟩) hw
            have hearr : endT size es now = arr := by have := hmin es hws; omega
            have hnd : (frm :: es.map (·.f2)).Nodup := by
              obtain ⟨es2, hl2, hw2, he2, hn2, hq2⟩ := way_simple es _ _ _ h0 hw
              rcases hq2 with rfl | hlt
              · exact hn2
              · exact absurd ⟨es2, Nat.le_refl _, hw2, by omega⟩ (hnj es2.length (by omega))
            refine .inr ⟨es, ⟨hA, hN, hws, hnd, by omega⟩, ?_, ?_⟩
            · rw [hgo, hearr]
              rfl
            · intro es' hr
              have hge := hmin es' hr.way
              by_cases hlt : arr < endT size es' now
              · exact .inl (by omega)
              · have heq : endT size es' now = arr := by omega
                refine .inr ⟨by omega, ?_⟩
                have hr' := hreach es' hr.way (by omega)
                have hge2 : j ≤ es'.length := by
                  rcases Nat.lt_or_ge es'.length j with q | q
                  · exact absurd hr' (hnj _ q)
                  · exact q
                by_cases hlq : es.length < es'.length
                · exact .inl hlq
                · exact .inr ⟨by omega, hlex es' (toE es' hr.way) (by omega) (by omega)⟩
          · exact absurd hr1 (hnone _ (by omega))
        · have hA2 : ¬ Asked l dst arr size := fun q => hN q.1
          rw [if_pos (.inr hA2)]
          refine .inl ⟨rfl, fun es hr => hN hr.node⟩
  · rw [hno hA]
    exact .inl ⟨rfl, fun es hr => hA hr.asked⟩
end Go.Proofs.Ytijflnpgiegajaa.Q
end
section
namespace Go.Proofs.Ytijflnpgiegajaa.Q
open Go.RowKit Go.Proofs.YtijflnpgiegajaaW.PrintWords Go.Proofs.YtijflnpgiegajaaW.PrintLast Go.Proofs.YtijflnpgiegajaaW.PrintMore Go.Proofs.Ytijflnpgiegajaa.IM
set_option linter.unusedVariables false
set_option linter.unusedSimpArgs false
theorem snoc_ind {α : Type} {P : List α → Prop} (h0 : P []) (h1 : ∀ l x, P l → P (l ++ [x])) (l : List α) : P l := by
  have : ∀ r : List α, P r.reverse := fun r => by
    induction r with
    | nil => exact h0
    | cons x r ih => rw [List.reverse_cons]; exact h1 _ _ ih
  have h := this l.reverse
  rwa [List.reverse_reverse] at h
theorem byId_some : ∀ (l : List S65) (id : Int) (e : S65), aget (byId l) id = some e → e ∈ l ∧ e.f0 = id := by
  refine snoc_ind (fun id e h => by simp [byId, aget] at h) ?_
  · intro l x ih id e h
    rw [byId_snoc, aget_aset] at h
    split at h
    · rename_i he
      injection h with h
      subst h
      exact ⟨by simp, he⟩
    · have := ih id e h
      exact ⟨by simp [this.1], this.2⟩
theorem byId_mem : ∀ (l : List S65), l.Pairwise (fun a b => a.f0 < b.f0) → ∀ e ∈ l, aget (byId l) e.f0 = some e := by
  refine snoc_ind (fun _ e h => by simp at h) ?_
  · intro l x ih hp e h
    rw [List.pairwise_append] at hp
    rw [byId_snoc, aget_aset]
    rcases List.mem_append.1 h with h | h
    · have := hp.2.2 e h x (by simp)
      rw [if_neg (by omega)]
      exact ih hp.1 e h
    · simp at h
      subst h
      rw [if_pos rfl]
def ChainE (l : List S65) : List S65 → Int → Prop
  | [], _ => True
  | e :: r, a => e ∈ l ∧ e.f1 = a ∧ ChainE l r e.f2
theorem steps_yes {l : List S65} (hp : l.Pairwise (fun a b => a.f0 < b.f0)) : ∀ (es : List S65) (a : Int) (acc : List S65), ChainE l es a → stepsGo (byId l) (es.map (·.f0)) a acc = (acc ++ es, true)
  | [], a, acc, _ => by simp [stepsGo]
  | e :: r, a, acc, h => by
    obtain ⟨h1, h2, h3⟩ := h
    rw [List.map_cons, stepsGo, byId_mem l hp e h1]
    simp only
    rw [if_pos h2, steps_yes hp r e.f2 _ h3]
    simp
theorem steps_no {l : List S65} : ∀ (ids : List Int) (a : Int) (acc : List S65), (∃ es, es.map (·.f0) = ids ∧ ChainE l es a ∧ stepsGo (byId l) ids a acc = (acc ++ es, true)) ∨ stepsGo (byId l) ids a acc = ([], false)
  | [], a, acc => .inl ⟨[], rfl, trivial, by simp [stepsGo]⟩
  | id :: r, a, acc => by
    rw [stepsGo]
    cases h : aget (byId l) id with
    | none => exact .inr rfl
    | some e =>
      simp only
      by_cases he : e.f1 = a
      · rw [if_pos he]
        obtain ⟨h1, h2⟩ := byId_some l id e h
        rcases steps_no r e.f2 (acc ++ [e]) with ⟨es, g1, g2, g3⟩ | g
        · exact .inl ⟨e :: es, by rw [List.map_cons, g1, h2], ⟨h1, he, g2⟩, by rw [g3]; simp⟩
        · exact .inr g
      · rw [if_neg he]
        exact .inr rfl
theorem walkT_way {l : List S65} {size : Int} : ∀ (es : List S65) (a t : Int) (h : List S56), ChainE l es a → walkT es t size = some h → ∃ b, Way l size [] es a t b ∧ h = hopsT size es t
  | [], a, t, h, _, hw => ⟨a, rfl, by simp only [walkT, Option.some.injEq] at hw; exact hw.symm⟩
  | e :: r, a, t, h, hc, hw => by
    obtain ⟨h1, h2, h3⟩ := hc
    rw [walkT] at hw
    split at hw
    · rename_i hp
      rw [Option.map_eq_some_iff] at hw
      obtain ⟨h', hw', rfl⟩ := hw
      obtain ⟨b, hb, rfl⟩ := walkT_way r e.f2 _ h' h3 hw'
      exact ⟨b, ⟨h1, h2, by simp, hp, hb⟩, rfl⟩
    · exact absurd hw (by simp)
theorem way_chain {l : List S65} {size : Int} {sh : List Int} : ∀ (es : List S65) (a t b : Int), Way l size sh es a t b → ChainE l es a
  | [], _, _, _, _ => trivial
  | e :: r, a, t, b, h => ⟨h.1, h.2.1, way_chain r _ _ b h.2.2.2.2⟩
theorem walkP_yes {l : List S65} {frm now size : Int} {es : List S65} {sh : List Int} {b : Int} (hA : Asked l frm now size) (hw : Way l size sh es frm now b) : walkP l (es.map (·.f0)) frm now size = some (hopsT size es now) := by
  unfold walkP
  rw [steps_yes (rightL_pair hA.2.2.2) es frm [] (way_chain es _ _ _ hw)]
  simp only [List.nil_append, true_and]
  rw [if_pos hA, way_walkT es _ _ _ hw]
theorem walkP_some {l : List S65} {frm now size : Int} {ids : List Int} {h : List S56} (hw : walkP l ids frm now size = some h) : Asked l frm now size ∧ ∃ es b, es.map (·.f0) = ids ∧ Way l size [] es frm now b ∧ h = hopsT size es now := by
  unfold walkP at hw
  simp only at hw
  split at hw
  case isFalse => exact absurd hw (by simp)
  rename_i hc
  refine ⟨hc.2, ?_⟩
  rcases steps_no (l := l) ids frm [] with ⟨es, g1, g2, g3⟩ | g
  · rw [g3] at hw
    obtain ⟨b, hb, he⟩ := walkT_way es frm now h g2 hw
    exact ⟨es, b, g1, hb, he⟩
  · rw [g] at hc
    exact absurd hc.1 (by simp)
theorem endsP_yes {l : List S65} {frm : Int} {es : List S65} (hn : NodeP frm) (hr : RightL l) (hc : ChainE l es frm) : endsP l (es.map (·.f0)) frm = some (frm :: es.map (·.f2)) := by
  unfold endsP
  rw [steps_yes (rightL_pair hr) es frm [] hc]
  simp [hn, hr]
instance (a b : S56) : Decidable (a = b) := decidable_of_iff (a.f0 = b.f0 ∧ a.f1 = b.f1 ∧ a.f2 = b.f2) ⟨fun h => by cases a; cases b; simp at h; simp [h], fun h => by subst h; exact ⟨rfl, rfl, rfl⟩⟩
def lexC : List Int → List Int → Int
  | [], [] => 0
  | [], _ :: _ => -1
  | _ :: _, [] => 1
  | a :: r, b :: s => if a < b then -1 else if a > b then 1 else lexC r s
def orI (a b : Int) : Int := if a = 0 then b else a
def cmpR (h1 : List S56) (t1 : Int) (h2 : List S56) (t2 : Int) : Int := orI (orI (cmpI t1 t2) (cmpI h1.length h2.length)) (lexC (h1.map (·.f0)) (h2.map (·.f0)))
theorem cmp_Or_eq (k : Nat) (a b : Int) : cmp_Or_int.f (k + 3) [a, b] = some (orI a b) := by
  unfold cmp_Or_int.f orI
  have w1 : wrap64 (0 + 1) = 1 := by unfold wrap64; omega
  have w2 : wrap64 (1 + 1) = 2 := by unfold wrap64; omega
  have r0 : rd [a, b] 0 = a := rfl
  have r1 : rd [a, b] 1 = b := rfl
  simp only [cmp_Or_int.l0, w1, w2, r0, r1, List.length_cons, List.length_nil]
  by_cases h : a = 0
  · by_cases g : b = 0 <;> simp [h, g]
  · simp [h]
theorem slices_Compare_l0 (x y : List Int) (hx : x.length ≤ 1000000) : ∀ (d i k : Nat), i + d = x.length → d < k → i ≤ y.length → slices_Compare_int_int.l0 k x y x (x.length : Int) (i : Int) = some (lexC (x.drop i) (y.drop i))
  | 0, i, k, hd, hk, hi => by
    obtain ⟨k, rfl⟩ : ∃ m, k = m + 1 := ⟨k - 1, by omega⟩
    rw [slices_Compare_int_int.l0, if_neg (by omega), List.drop_eq_nil_of_le (by omega)]
    by_cases h : i < y.length
    · rw [if_pos (by omega), List.drop_eq_getElem_cons h]
      rfl
    · rw [if_neg (by omega), List.drop_eq_nil_of_le (by omega)]
      rfl
  | d + 1, i, k, hd, hk, hi => by
    obtain ⟨k, rfl⟩ : ∃ m, k = m + 1 := ⟨k - 1, by omega⟩
    have hix : i < x.length := by omega
    rw [slices_Compare_int_int.l0, if_pos (by omega), if_pos (by omega), if_pos (by omega), List.drop_eq_getElem_cons hix]
    by_cases h : i < y.length
    · rw [if_neg (by omega), if_pos (by omega), List.drop_eq_getElem_cons h, cmp_Compare_eq, rdI x i hix, rdI y i h, wrap_succ i hix hx, slices_Compare_l0 x y hx d (i + 1) k (by omega) (by omega) (by omega)]
      simp only [Option.bind_some, lexC, cmpI]
      by_cases c1 : x[i] < y[i]
      · simp [c1]
      · by_cases c2 : x[i] > y[i]
        · simp [c1, c2]
        · simp [c1, c2]
    · rw [if_pos (by omega), List.drop_eq_nil_of_le (show y.length ≤ i by omega)]
      rfl
theorem slices_Compare_eq (x y : List Int) (hx : x.length ≤ 1000000) (k : Nat) (hk : x.length < k) : slices_Compare_int_int.f k x y = some (lexC x y) := by
  unfold slices_Compare_int_int.f
  have := slices_Compare_l0 x y hx x.length 0 k (by omega) hk (Nat.zero_le _)
  rw [show ((0 : Nat) : Int) = 0 from rfl] at this
  rw [this]
  simp
theorem order_Compare_eq (h1 h2 : List S56) (t1 t2 : Int) (hl1 : h1.length ≤ 1000000) (hl2 : h2.length ≤ 1000000) (k : Nat) (hk : h1.length + h2.length + 3 < k) : order_Compare.f k h1 t1 h2 t2 = some (cmpR h1 t1 h2 t2) := by
  obtain ⟨k, rfl⟩ : ∃ m, k = m + 3 := ⟨k - 3, by omega⟩
  unfold order_Compare.f cmpR
  rw [cmp_Compare_eq, cmp_Compare_eq, path_IDs_eq h1 hl1 _ (by omega), path_IDs_eq h2 hl2 _ (by omega)]
  simp only [Option.bind_some, cmp_Or_eq]
  rw [slices_Compare_eq _ _ (by simpa using hl1) _ (by simp; omega)]
  simp only [Option.bind_some, cmp_Or_eq]
theorem api_Hop_l0 (x y : List S56) (hl : x.length = y.length) (hx : x.length ≤ 1000000) : ∀ (d i k : Nat), i + d = x.length → d < k → api_Hop.l0 k x y (x.length : Int) (i : Int) = some (decide (x.drop i = y.drop i))
  | 0, i, k, hd, hk => by
    obtain ⟨k, rfl⟩ : ∃ m, k = m + 1 := ⟨k - 1, by omega⟩
    rw [api_Hop.l0, if_neg (by omega), List.drop_eq_nil_of_le (by omega), List.drop_eq_nil_of_le (show y.length ≤ i by omega)]
    rfl
  | d + 1, i, k, hd, hk => by
    obtain ⟨k, rfl⟩ : ∃ m, k = m + 1 := ⟨k - 1, by omega⟩
    have hix : i < x.length := by omega
    have hiy : i < y.length := by omega
    rw [api_Hop.l0, if_pos (by omega), if_pos (by omega), if_pos (by omega), if_pos (by omega), rd56 x i hix, rd56 y i hiy, wrap_succ i hix hx, api_Hop_l0 x y hl hx d (i + 1) k (by omega) (by omega), List.drop_eq_getElem_cons (l := x) hix, List.drop_eq_getElem_cons (l := y) hiy]
    by_cases he : x[i] = y[i]
    · rw [if_neg (by rw [he]; simp)]
      congr 1
      rw [decide_eq_decide, List.cons.injEq]
      exact ⟨fun h => ⟨he, h⟩, fun h => h.2⟩
    · rw [if_pos ?_]
      · congr 1
        symm
        rw [decide_eq_false_iff_not, List.cons.injEq]
        exact fun h => he h.1
      · simp only [Bool.or_eq_true, Bool.not_eq_true', beq_eq_false_iff_ne]
        by_cases a : x[i].f0 = y[i].f0
        · by_cases b : x[i].f1 = y[i].f1
          · by_cases c : x[i].f2 = y[i].f2
            · exact absurd (by revert a b c; generalize x[i] = u; generalize y[i] = v; intro a b c; cases u; cases v; simp at a b c; simp [a, b, c]) he
            · exact .inr (.inr c)
          · exact .inr (.inl b)
        · exact .inl a
theorem path_Same_eq (h1 h2 : List S56) (t1 t2 : Int) (hl1 : h1.length ≤ 1000000) (k : Nat) (hk : h1.length < k) : path_Same.f k h1 t1 h2 t2 = some (decide (t1 = t2 ∧ h1 = h2)) := by
  unfold path_Same.f api_Hop.f
  by_cases ht : t1 = t2
  · rw [if_pos ht]
    by_cases hl : h1.length = h2.length
    · rw [if_pos (by omega)]
      have := api_Hop_l0 h1 h2 hl hl1 h1.length 0 k (by omega) hk
      rw [show ((0 : Nat) : Int) = 0 from rfl] at this
      rw [this]
      simp [ht]
    · rw [if_neg (by omega)]
      have : ¬ h1 = h2 := fun e => hl (by rw [e])
      simp [this]
  · rw [if_neg ht]
    simp [ht]
theorem lexC_le : ∀ (x y : List Int), x.length = y.length → lexLe x y → lexC x y ≤ 0 ∧ (lexC x y = 0 → x = y)
  | [], [], _, _ => ⟨by simp [lexC], fun _ => rfl⟩
  | [], b :: s, h, _ => by simp at h
  | a :: r, [], h, _ => by simp at h
  | a :: r, b :: s, h, hl => by
    simp only [lexC]
    rcases hl with hlt | ⟨rfl, hl⟩
    · rw [if_pos hlt]
      exact ⟨by omega, fun e => by omega⟩
    · have := lexC_le r s (by simpa using h) hl
      rw [if_neg (by omega), if_neg (by omega)]
      exact ⟨this.1, fun e => by rw [this.2 e]⟩
theorem ids_one {l : List S65} (hp : l.Pairwise (fun a b => a.f0 < b.f0)) : ∀ (xs ys : List S65), (∀ e ∈ xs, e ∈ l) → (∀ e ∈ ys, e ∈ l) → xs.map (·.f0) = ys.map (·.f0) → xs = ys
  | [], [], _, _, _ => rfl
  | [], b :: s, _, _, h => by simp at h
  | a :: r, [], _, _, h => by simp at h
  | a :: r, b :: s, hx, hy, h => by
    simp only [List.map_cons, List.cons.injEq] at h
    have h1 := byId_mem l hp a (hx a (by simp))
    have h2 := byId_mem l hp b (hy b (by simp))
    rw [h.1, h2] at h1
    injection h1 with h1
    rw [h1, ids_one hp r s (fun e he => hx e (by simp [he])) (fun e he => hy e (by simp [he])) h.2]
theorem cmpR_le {size now : Int} {es es' : List S65} (h : keyLe size now es es') : cmpR (hopsT size es now) (endT size es now) (hopsT size es' now) (endT size es' now) ≤ 0 ∧ (cmpR (hopsT size es now) (endT size es now) (hopsT size es' now) (endT size es' now) = 0 → es.map (·.f0) = es'.map (·.f0)) := by
  unfold cmpR
  simp only [hopsT_ids, hopsT_len]
  rcases h with h | ⟨h1, h | ⟨h2, h3⟩⟩
  · have a : cmpI (endT size es now) (endT size es' now) = -1 := by unfold cmpI; rw [if_pos h]
    simp [orI, a]
  · have a : cmpI (endT size es now) (endT size es' now) = 0 := by unfold cmpI; rw [if_neg (by omega), if_neg (by omega)]
    have b : cmpI (es.length : Int) (es'.length : Int) = -1 := by unfold cmpI; rw [if_pos (by omega)]
    simp [orI, a, b]
  · have a : cmpI (endT size es now) (endT size es' now) = 0 := by unfold cmpI; rw [if_neg (by omega), if_neg (by omega)]
    have b : cmpI (es.length : Int) (es'.length : Int) = 0 := by unfold cmpI; rw [if_neg (by omega), if_neg (by omega)]
    simp only [orI, a, b, if_true]
    exact lexC_le _ _ (by simp [h2]) h3
end Go.Proofs.Ytijflnpgiegajaa.Q
end
section
namespace Go.Proofs.Ytijflnpgiegajaa.Q
open Go.RowKit Go.Proofs.YtijflnpgiegajaaW.PrintWords Go.Proofs.YtijflnpgiegajaaW.PrintLast Go.Proofs.YtijflnpgiegajaaW.PrintMore Go.Proofs.Ytijflnpgiegajaa.IM Go.Proofs.Ytijflnpgiegajaa.Ev
set_option linter.unusedVariables false
set_option linter.unusedSimpArgs false
theorem k65_KM {w w' : World} {base : Nat} {ok : Nat → Prop} (x : S65) (cs : List Value) (h : k65.K w x cs) : k65.M w' base ok x cs := by
  rw [k65_open h]
  exact k65_mkM w' base ok x
set_option maxHeartbeats 4000000 in
set_option maxRecDepth 100000 in
theorem clone65_calls (A : Option Addr) (c : Nat) (l : List S65) (w : World) (hr : Kd.C k65 w A l.length l) (hl : l.length ≤ 1000000) :
    Calls Try.prog 58 #[.slice A l.length c] w fun e w' => ∃ v, e = .returned v ∧ Kd.R k65 65 w' w.heap.size (fun _ => True) v l ∧ Below w.heap.size w w' := by
  have HR := Aside0.mk hr
  have HB := Aside0.mk (Below.refl w.heap.size w)
  have HLX := Aside0.mk (show (([] : List S65).length + l.length) * 64 ≤ 140737488355328 by simp; omega)
  clear hr hl
  cases A with
  | none =>
    have hl0 : l = [] := by
      cases l with
      | nil => rfl
      | cons x r => obtain ⟨ad, h, _⟩ := HR.out.2.2 (by simp); cases h
    subst hl0
    have he : ∀ w, (binOp .eql 22 (.slice none 0 c) (.slice none 0 0)).run Try.prog w = .ok (.bool true) w := fun w => Go.Lib.run_eql_slice_nil (P := Try.prog) w 22 65 none 0 c 0 0 Try.underlying22
    go_enter Try.func58, Try.ntmps58
    go_wp2
    go_ret
    exact ⟨_, rfl, Kd.R_nil k65 65 _ w.heap.size (fun _ => True), HB.out⟩
  | some ad =>
    have he : ∀ w, (binOp .eql 22 (.slice (some ad) l.length c) (.slice none 0 0)).run Try.prog w = .ok (.bool false) w := fun w => Go.Lib.run_eql_slice_nil (P := Try.prog) w 22 65 (some ad) l.length c 0 0 Try.underlying22
    go_enter Try.func58, Try.ntmps58
    go_wp2_with (first
      | ((with_reducible refine gate_dst (N := 5) rfl ?_); go_loud (refine Kd.R_lit k65 (w0 := w) (W := w) w.heap.size 65 rfl (N := 5) rfl (xs := []) (inner := []) (ok := fun _ => True) (okp := fun _ => False) (by first | (go_simp; done) | (go_simp; rfl)) ⟨rfl, fun j p hj => by simp at hj⟩ (fun _ h => h.elim) trivial HB.out (Nat.le_refl _) (by simp) ?_); intro v1 w1 ho hb hg hf; have HO1 := Aside0.mk ho; have HB1 := Aside0.mk hb; have HR1 := Aside0.mk (Kd.C_below HR.out hb); clear ho hb hg hf HB HR)
      | (at_builtin; go_loud (refine Kd.R_append_rows k65 (w0 := w) (W := _) (Rr := k65.K _) w.heap.size rfl (.tmp 5) (.tmp 6) 22 65 (.agg #[.int .i64 0, .int .i64 0, .int .i64 0, .int .i64 0, .int .i64 0, .int .i64 0, .int .i64 0, .int .i64 0]) 64 rfl Try.underlying22 info65 rfl (by decide) (by decide) v1 [] l (some ad) l.length c (fun _ => True) (fun _ => False) rfl rfl HO1.out HR1.out (fun x cs h => k65_KM x cs h) (fun _ h => h.elim) (fun _ _ => trivial) HB1.out HB1.out.size HLX.out ?_); intro v2 w2 ho hb hg hf; have HO2 := Aside0.mk ho; have HB2 := Aside0.mk hb; clear ho hb hg hf HB1 HO1 HR1))
    go_ret
    exact ⟨_, rfl, by have := HO2.out; rw [List.nil_append] at this; exact this, HB2.out⟩
def banB (at_ : Int) (bans : List Int) (e : S65) : Bool := decide (e.f1 = at_) && decide (e.f0 ∈ bans)
structure Ban (w0 w : World) (ga gb : Nat) (at_ : Int) (A2 : Option Addr) (c2 : Nat) (bans : List Int) : Prop where
  A : w.heap[ga]? = some (.cells #[.int .i64 at_] 3 (0, 0))
  B : w.heap[gb]? = some (.cells #[.slice A2 bans.length c2] 23 (0, 0))
  C : Kd.C (Kd.int .i64) w0 A2 bans.length bans
  L : bans.length ≤ c2
  W : Below w0.heap.size w0 w
theorem Ban.below {w0 w w' : World} {ga gb : Nat} {at_ : Int} {A2 : Option Addr} {c2 : Nat} {bans : List Int} (h : Ban w0 w ga gb at_ A2 c2 bans) (hb : Below w.heap.size w w') : Ban w0 w' ga gb at_ A2 c2 bans :=
  ⟨blk_below h.A hb, blk_below h.B hb, h.C, h.L, below_step h.W hb⟩
theorem Ban.grown {w0 w w' : World} {ga gb g : Nat} {at_ : Int} {A2 : Option Addr} {c2 : Nat} {bans : List Int} (h : Ban w0 w ga gb at_ A2 c2 bans) (hg : w.grownBy w' (some g)) (h1 : ga ≠ g) (h2 : gb ≠ g) (h3 : w0.heap.size ≤ g) : Ban w0 w' ga gb at_ A2 c2 bans :=
  ⟨blk_grown h.A hg (fun e => by injection e with e; exact h1 e), blk_grown h.B hg (fun e => by injection e with e; exact h2 e), h.C, h.L, below_grown_one h.W hg h3⟩
theorem pw_alloc {w : World} {a : Addr} {v : Value} (o : Obj) (h : w.cell? a = some v) : (w.alloc o).cell? a = some v := pw_cell_below (below_alloc (Below.refl _ _) o) h
set_option maxHeartbeats 4000000 in
set_option maxRecDepth 100000 in
theorem ban_calls {w0 w : World} {ga gb : Nat} {at_ : Int} {A2 : Option Addr} {c2 : Nat} {bans : List Int} (H : Ban w0 w ga gb at_ A2 c2 bans) (hl : bans.length ≤ 1000000) (e : S65) :
    Calls Try.prog 55 #[.agg #[.int .i64 e.f0, .int .i64 e.f1, .int .i64 e.f2, .int .i64 e.f3, .int .i64 e.f4, .int .i64 e.f5, .int .i64 e.f6, .int .i64 e.f7], .pointer (some ⟨ga, 0, none⟩), .pointer (some ⟨gb, 0, none⟩)] w fun e' w' => e' = .returned (.bool (banB at_ bans e)) ∧ Below w.heap.size w w' := by
  have HH := Aside0.mk H
  have ca := pw_alloc (.cells #[.int .i64 e.f0, .int .i64 e.f1, .int .i64 e.f2, .int .i64 e.f3, .int .i64 e.f4, .int .i64 e.f5, .int .i64 e.f6, .int .i64 e.f7] 65) ((blk_cell H.A 0).trans rfl)
  have cb := pw_alloc (.cells #[.int .i64 e.f0, .int .i64 e.f1, .int .i64 e.f2, .int .i64 e.f3, .int .i64 e.f4, .int .i64 e.f5, .int .i64 e.f6, .int .i64 e.f7] 65) ((blk_cell H.B 0).trans rfl)
  have hct := slices_Contains_eq bans hl (bans.length + 1) (Nat.lt_succ_self _) e.f0
  clear H hl
  by_cases h1 : e.f1 = at_
  · have hq : (e.f1 == at_) = true := beq_iff_eq.mpr h1
    have hb : banB at_ bans e = decide (e.f0 ∈ bans) := by unfold banB; rw [decide_eq_true h1, Bool.true_and]
    have HBN := Aside0.mk hb
    have HCT := Aside0.mk hct
    clear h1 hb hct
    go_enter Try.func55, Try.ntmps55
    go_wp2_with (first
      | (go_at_call 56; go_loud (refine (slices_Contains_int_int.calls (bans.length + 1) A2 c2 bans e.f0 _ _ (Kd.C_below HH.out.C (below_step HH.out.W (below_alloc (Below.refl _ _) _))) HH.out.L HCT.out).mono ?_); rintro e' w' ⟨rfl, hd⟩; have HD := Aside0.mk (below_step (below_alloc (Below.refl w.heap.size w) _) hd.below); clear hd))
    go_ret
    exact ⟨by rw [HBN.out]; rfl, HD.out⟩
  · have hq : (e.f1 == at_) = false := beq_eq_false_iff_ne.mpr h1
    have hb : banB at_ bans e = false := by unfold banB; rw [decide_eq_false h1, Bool.false_and]
    have HBN := Aside0.mk hb
    clear h1 hb hct
    go_enter Try.func55, Try.ntmps55
    go_wp2
    go_ret
    exact ⟨by rw [HBN.out]; rfl, below_alloc (Below.refl _ _) _⟩
end Go.Proofs.Ytijflnpgiegajaa.Q
end
section
namespace Go.Proofs.Ytijflnpgiegajaa.Q
open Go.RowKit Go.Proofs.YtijflnpgiegajaaW.PrintWords Go.Proofs.YtijflnpgiegajaaW.PrintLast Go.Proofs.YtijflnpgiegajaaW.PrintMore Go.Proofs.Ytijflnpgiegajaa.IM Go.Proofs.Ytijflnpgiegajaa.Ev
set_option linter.unusedVariables false
set_option linter.unusedSimpArgs false
def idxB (at_ : Int) (bans : List Int) : List S65 → Nat → Int
  | [], _ => -1
  | e :: r, i => if banB at_ bans e = true then (i : Int) else idxB at_ bans r (i + 1)
def delB (at_ : Int) (bans : List Int) (l : List S65) : List S65 := l.filter (fun e => !banB at_ bans e)
set_option maxHeartbeats 4000000 in
set_option maxRecDepth 100000 in
theorem index_calls {w0 w : World} {ga gb : Nat} {at_ : Int} {A2 : Option Addr} {c2 : Nat} {bans : List Int} (H : Ban w0 w ga gb at_ A2 c2 bans) (hl : bans.length ≤ 1000000) (A : Option Addr) (c : Nat) (l : List S65) (hr : Kd.C k65 w A l.length l) (hll : l.length ≤ 1000000) :
    Calls Try.prog 81 #[.slice A l.length c, .func (.func 55) #[] #[.pointer (some ⟨ga, 0, none⟩), .pointer (some ⟨gb, 0, none⟩)]] w fun e w' => e = .returned (.int .i64 (idxB at_ bans l 0)) ∧ Below w.heap.size w w' := by
  have HH := Aside0.mk H
  have HR := Aside0.mk hr
  have HL := Aside0.mk hl
  have HB := Aside0.mk (Below.refl w.heap.size w)
  clear H hr hl
  go_enter Try.func81, Try.ntmps81
  go_wp2
  go_loopg [5, 8] l.length (fun kq _ v8 w' => ∃ i : Nat, v8 = .int .i64 (i : Int) ∧ Aside0 (i + kq = l.length) ∧ Aside0 (idxB at_ bans l 0 = idxB at_ bans (l.drop i) i) ∧ Aside0 (Below w.heap.size w w'))
  case atStart => exact ⟨0, rfl, ⟨by omega⟩, ⟨rfl⟩, HB⟩
  case round =>
    clear HB
    obtain ⟨i, rfl, HI, HX, HB⟩ := hrel
    cases gk with
    | zero =>
      have hi : ¬ ((i : Nat) : Int) < (l.length : Int) := by have := HI.out; omega
      have hx := HX.out
      rw [List.drop_eq_nil_of_le (by have := HI.out; omega)] at hx
      have HX := Aside0.mk hx
      clear hx HI
      go_wp2
      go_ret
      exact ⟨by rw [HX.out]; rfl, HB.out⟩
    | succ k1 =>
      have hi : i < l.length := by have := HI.out; omega
      have p0 : 0 ≤ ((i : Nat) : Int) := by omega
      have p1 : ((i : Nat) : Int) < (l.length : Int) := by omega
      obtain ⟨ad, e0, hx0, hx1, hx2, hx3, hx4, hx5, hx6, hx7⟩ := at_T65 (Kd.C_below HR.out HB.out) (i : Int) p0 p1
      cases e0
      rw [Int.toNat_natCast, rd65 l i hi] at hx0 hx1 hx2 hx3 hx4 hx5 hx6 hx7
      have hx := HX.out
      rw [List.drop_eq_getElem_cons hi, idxB] at hx
      generalize l[i] = ed at hx hx0 hx1 hx2 hx3 hx4 hx5 hx6 hx7
      cases hb : banB at_ bans ed with
      | true =>
        rw [hb, if_pos rfl] at hx
        have HX := Aside0.mk hx
        have HBN := Aside0.mk hb
        clear hx hb
        go_wp2_with (first
          | (go_at_call 55; go_loud (refine (ban_calls (HH.out.below HB.out) HL.out ed).mono ?_); rw [HBN.out]; rintro e w5 ⟨rfl, hbw⟩; have HB5 := Aside0.mk (below_step HB.out hbw); clear hbw HB))
        go_ret
        exact ⟨by rw [HX.out]; rfl, HB5.out⟩
      | false =>
        rw [hb, if_neg (by simp)] at hx
        have HX := Aside0.mk hx
        have HBN := Aside0.mk hb
        clear hx hb
        go_wp2_with (first
          | (go_at_call 55; go_loud (refine (ban_calls (HH.out.below HB.out) HL.out ed).mono ?_); rw [HBN.out]; rintro e w5 ⟨rfl, hbw⟩; have HB5 := Aside0.mk (below_step HB.out hbw); clear hbw HB hx0 hx1 hx2 hx3 hx4 hx5 hx6 hx7))
        go_roundg k1
        case measure => omega
        case rel => exact ⟨i + 1, by first | rfl | (simp; done) | (go_num; done), ⟨by have := HI.out; omega⟩, HX, HB5⟩
theorem idxB_spec (at_ : Int) (bans : List Int) : ∀ (l : List S65) (i : Nat), (idxB at_ bans l i = -1 ∧ ∀ e ∈ l, banB at_ bans e = false) ∨ ∃ k, ∃ h : k < l.length, idxB at_ bans l i = ((i + k : Nat) : Int) ∧ banB at_ bans l[k] = true ∧ ∀ e ∈ l.take k, banB at_ bans e = false
  | [], i => .inl ⟨rfl, fun e h => by simp at h⟩
  | x :: r, i => by
    unfold idxB
    cases hb : banB at_ bans x with
    | true => exact .inr ⟨0, by simp, by simp, hb, fun e h => by simp at h⟩
    | false =>
      rw [if_neg (by simp)]
      rcases idxB_spec at_ bans r (i + 1) with ⟨h1, h2⟩ | ⟨k, hk, h1, h2, h3⟩
      · exact .inl ⟨h1, fun e he => (List.mem_cons.1 he).elim (fun q => by rw [q]; exact hb) (h2 e)⟩
      · refine .inr ⟨k + 1, by simp; omega, by rw [h1]; congr 1; omega, by simpa using h2, fun e he => ?_⟩
        rw [List.take_succ_cons] at he
        exact (List.mem_cons.1 he).elim (fun q => by rw [q]; exact hb) (h3 e)
theorem delB_self {at_ : Int} {bans : List Int} {l : List S65} (h : ∀ e ∈ l, banB at_ bans e = false) : delB at_ bans l = l := List.filter_eq_self.2 (fun e he => by rw [h e he]; rfl)
theorem delB_snoc (at_ : Int) (bans : List Int) (l : List S65) (j : Nat) (hj : j < l.length) : delB at_ bans (l.take (j + 1)) = delB at_ bans (l.take j) ++ (if banB at_ bans l[j] = true then [] else [l[j]]) := by
  unfold delB
  rw [List.take_succ_eq_append_getElem hj, List.filter_append]
  congr 1
  cases h : banB at_ bans l[j] <;> simp [h]
theorem run_clear65 {W : World} {base : Nat} {ok : Nat → Prop} {g cap : Nat} {L : List S65} (HO : Kd.R k65 65 W base ok (.slice (some ⟨g, 0, none⟩) L.length cap) L) (i c : Nat) (hi : i < L.length) :
    ∃ w1, (∀ ty, (Builtin.clear_ #[22] ty #[.slice (some ⟨g, i * 8, none⟩) (L.length - i) c]).run Try.prog W = .ok (.tuple #[]) w1) ∧ W.grownBy w1 (some g) ∧ Kd.C k65 w1 (some ⟨g, 0, none⟩) i (L.take i) := by
  obtain ⟨hn, hnc, hC⟩ := Kd.R_reads' HO
  obtain ⟨hok, inner, ho, hr⟩ := HO
  rcases ho.2 with ⟨hv, _⟩ | ⟨g', cap', cur, hv, hb, hh, h1, h2, h3, h4⟩
  · cases hv
  injection hv with ha _ hc
  injection ha with ha
  injection ha with hg
  subst hg; subst hc
  obtain ⟨m, hm⟩ : ∃ m, L.length - i = m + 1 := ⟨L.length - i - 1, by omega⟩
  have h3' : cur.size = cap * 8 := h3
  let z : Array Value := #[.int .i64 0, .int .i64 0, .int .i64 0, .int .i64 0, .int .i64 0, .int .i64 0, .int .i64 0, .int .i64 0]
  have hzl : (Builtin.zeroCells z (m + 1)).toList.length = (m + 1) * 8 := by simp [Builtin.zeroCells, z]
  have hz1 : ∀ v ∈ (Builtin.zeroCells z (m + 1)).toList, v.oneCell' = true := by
    intro v hv
    have hv' : v ∈ Builtin.zeroCells z (m + 1) := Array.mem_toList_iff.1 hv
    unfold Builtin.zeroCells at hv'
    obtain ⟨q, _, rfl⟩ := Array.mem_map.1 hv'
    have hq : q % 8 < 8 := Nat.mod_lt _ (by decide)
    show (z[q % 8]!).oneCell' = true
    generalize q % 8 = r at hq
    match r, hq with
    | 0, _ => rfl
    | 1, _ => rfl
    | 2, _ => rfl
    | 3, _ => rfl
    | 4, _ => rfl
    | 5, _ => rfl
    | 6, _ => rfl
    | 7, _ => rfl
  have hst := run_storeCells_at Try.prog g (i * 8) 65 (Builtin.zeroCells z (m + 1)).toList 0 cur W hh (by rw [hzl]; omega) hz1
  have hzero : ∀ w, (zeroValue 65).run Try.prog w = .ok (.agg z) w := fun w => by
    cases hq : Try.prog.info? 65 with
    | none => have := info65; simp [hq] at this
    | some x => have := info65; simp [hq] at this; simp [zeroValue, typeInfo, hq, this, z]
  have hgr := setRow_grown W g (cur.toList.take (i * 8 + 0) ++ (Builtin.zeroCells z (m + 1)).toList ++ cur.toList.drop (i * 8 + 0 + (Builtin.zeroCells z (m + 1)).toList.length)).toArray
  refine ⟨_, ?_, hgr.1, ?_⟩
  · intro ty
    rw [hm]
    simp only [Builtin.clear_]
    simp [run_underlying Try.underlying22, hzero, Value.cells, hst]
  · have hti : (L.take i).length = i := by rw [List.length_take]; omega
    refine ⟨hti, by have := hC.2.1; omega, fun h0 => ⟨⟨g, 0, none⟩, rfl, fun j p hj => ?_⟩⟩
    have hji : j < i := by have := (List.getElem?_eq_some_iff.1 hj).1; omega
    rw [List.getElem?_take_of_lt hji] at hj
    obtain ⟨ad, e, hcell⟩ := hC.2.2 (by omega)
    injection e with e
    subst e
    obtain ⟨cs, hcl, hK, hcs⟩ := hcell j p hj
    have hcl8 : cs.length = 8 := hcl
    refine ⟨cs, hcl, by rw [k65_open hK]; exact k65_mk _ _, fun q u hq => ?_⟩
    have hql : q < 8 := by have := (List.getElem?_eq_some_iff.1 hq).1; omega
    rw [← hcs q u hq]
    have ea : (⟨g, 0, none⟩ : Addr).add (j * 8 + q) = ⟨g, j * 8 + q, none⟩ := add_plain _ _
    show World.cell? _ (Addr.add ⟨g, 0, none⟩ (j * 8 + q)) = World.cell? W (Addr.add ⟨g, 0, none⟩ (j * 8 + q))
    rw [ea]
    have e1 : (W.setRow g (cur.toList.take (i * 8 + 0) ++ (Builtin.zeroCells z (m + 1)).toList ++ cur.toList.drop (i * 8 + 0 + (Builtin.zeroCells z (m + 1)).toList.length)).toArray).heap[g]? = some (.cells (cur.toList.take (i * 8 + 0) ++ (Builtin.zeroCells z (m + 1)).toList ++ cur.toList.drop (i * 8 + 0 + (Builtin.zeroCells z (m + 1)).toList.length)).toArray 65 (0, 0)) := by
      simp [World.setRow, Array.getElem?_modify, hh]
    have hlt : j * 8 + q < i * 8 := by omega
    rw [cell_of_row _ g _ _ 65 (0, 0) e1, cell_of_row W g _ cur 65 (0, 0) hh]
    rw [List.getElem?_toArray, List.append_assoc, List.getElem?_append_left (by rw [List.length_take]; simp; omega), List.getElem?_take_of_lt (by omega), Array.getElem?_toList]
theorem elem65 {W : World} {base : Nat} {ok : Nat → Prop} {g n cap : Nat} {L : List S65} (HO : Kd.R k65 65 W base ok (.slice (some ⟨g, 0, none⟩) n cap) L) (j : Nat) (hj : j < L.length) :
    W.cell? ⟨g, j * 8, none⟩ = some (.int .i64 L[j].f0) ∧ W.cell? ⟨g, j * 8 + 1, none⟩ = some (.int .i64 L[j].f1) ∧ W.cell? ⟨g, j * 8 + 2, none⟩ = some (.int .i64 L[j].f2) ∧ W.cell? ⟨g, j * 8 + 3, none⟩ = some (.int .i64 L[j].f3) ∧ W.cell? ⟨g, j * 8 + 4, none⟩ = some (.int .i64 L[j].f4) ∧ W.cell? ⟨g, j * 8 + 5, none⟩ = some (.int .i64 L[j].f5) ∧ W.cell? ⟨g, j * 8 + 6, none⟩ = some (.int .i64 L[j].f6) ∧ W.cell? ⟨g, j * 8 + 7, none⟩ = some (.int .i64 L[j].f7) := by
  obtain ⟨hn, _, hC⟩ := Kd.R_reads' HO
  obtain ⟨ad, e, hcell⟩ := hC.2.2 (by omega)
  injection e with e
  subst e
  obtain ⟨cs, hcl, hK, hcs⟩ := hcell j L[j] (List.getElem?_eq_getElem hj)
  have ho := k65_open hK
  subst ho
  have key : ∀ q u, [Value.int .i64 L[j].f0, .int .i64 L[j].f1, .int .i64 L[j].f2, .int .i64 L[j].f3, .int .i64 L[j].f4, .int .i64 L[j].f5, .int .i64 L[j].f6, .int .i64 L[j].f7][q]? = some u → W.cell? ⟨g, j * 8 + q, none⟩ = some u := fun q u hq => by
    have h := hcs q u hq
    have ea : (⟨g, 0, none⟩ : Addr).add (j * 8 + q) = ⟨g, j * 8 + q, none⟩ := add_plain _ _
    rw [← ea]
    exact h
  exact ⟨key 0 _ rfl, key 1 _ rfl, key 2 _ rfl, key 3 _ rfl, key 4 _ rfl, key 5 _ rfl, key 6 _ rfl, key 7 _ rfl⟩
def DelPost (w0 w : World) (ga gb : Nat) (at_ : Int) (A2 : Option Addr) (c2 : Nat) (bans : List Int) (g : Option Nat) (l : List S65) (e : Ending) (w' : World) : Prop :=
  ∃ (A : Option Addr) (c : Nat), e = .returned (.slice A (delB at_ bans l).length c) ∧ (delB at_ bans l).length ≤ c ∧ Kd.C k65 w' A (delB at_ bans l).length (delB at_ bans l) ∧ Ban w0 w' ga gb at_ A2 c2 bans ∧ w.grownBy w' g
theorem k65_seg (W : World) (base : Nat) (ok : Nat → Prop) (e : S65) (c : List Value) (h : c.length = 8) : k65.M W base ok e (c.take 0 ++ [.int .i64 e.f0, .int .i64 e.f1, .int .i64 e.f2, .int .i64 e.f3, .int .i64 e.f4, .int .i64 e.f5, .int .i64 e.f6, .int .i64 e.f7] ++ c.drop (0 + 8)) := by
  rw [List.drop_eq_nil_of_le (by omega)]
  exact k65_mkM W base ok e
theorem below_grown {W w1 : World} (h : Below W.heap.size W w1) (g : Option Nat) : W.grownBy w1 g := ⟨h.os, h.tape, h.output, h.size, fun k hk _ => h.block k hk⟩
set_option maxHeartbeats 8000000 in
set_option maxRecDepth 100000 in
theorem del_calls {w0 w : World} {ga gb : Nat} {at_ : Int} {A2 : Option Addr} {c2 : Nat} {bans : List Int} (H : Ban w0 w ga gb at_ A2 c2 bans) (hl : bans.length ≤ 1000000) (v : Value) (l : List S65) (HO : Kd.R k65 65 w w0.heap.size (fun _ => True) v l) (hll : l.length ≤ 1000000) (ha : some ga ≠ v.ownBlock) (hb : some gb ≠ v.ownBlock) :
    Calls Try.prog 57 #[v, .func (.func 55) #[] #[.pointer (some ⟨ga, 0, none⟩), .pointer (some ⟨gb, 0, none⟩)]] w fun e w' => DelPost w0 w ga gb at_ A2 c2 bans v.ownBlock l e w' := by
  obtain ⟨A, cap, hv, hlc, hC⟩ := Kd.R_reads HO
  subst hv
  have HH := Aside0.mk H
  have HL := Aside0.mk hl
  have HLL := Aside0.mk hll
  have HC := Aside0.mk hC
  have HLC := Aside0.mk hlc
  rcases idxB_spec at_ bans l 0 with ⟨hx, hall⟩ | ⟨k0, hk0, hx, hbk, hall⟩
  · have HD := Aside0.mk (delB_self hall)
    have HX := Aside0.mk hx
    clear hl hll hC hlc hx hall H HO ha hb
    go_enter Try.func57, Try.ntmps57
    go_wp2_with (first
      | (go_at_call 81; go_loud (refine (index_calls HH.out HL.out A cap l HC.out HLL.out).mono ?_); rw [HX.out]; rintro e w1 ⟨rfl, hbw⟩; have HB1 := Aside0.mk hbw; clear hbw))
    go_ret
    exact ⟨A, cap, by rw [HD.out]; rfl, by rw [HD.out]; exact HLC.out, by rw [HD.out]; exact Kd.C_below HC.out HB1.out, HH.out.below HB1.out, below_grown HB1.out _⟩
  · obtain ⟨g, cap', hv, hbg, hgl, _⟩ := Kd.R_form HO (by omega)
    injection hv with hA _ hcap
    subst hA
    subst hcap
    rw [Nat.zero_add] at hx
    have HX := Aside0.mk hx
    have HBK := Aside0.mk hbk
    have HAL := Aside0.mk hall
    have HGA := Aside0.mk (show ga ≠ g from fun e => ha (by rw [e]; rfl))
    have HGB := Aside0.mk (show gb ≠ g from fun e => hb (by rw [e]; rfl))
    have HGE := Aside0.mk hbg
    have HO0 := Aside0.mk HO
    have hne : ((k0 : Int) == -1) = false := beq_eq_false_iff_ne.2 (by omega)
    have hk1 : (k0 : Int) ≤ 1000000 := by omega
    clear hl hC hlc hx hall H HO ha hb hbk hbg hgl
    go_enter Try.func57, Try.ntmps57
    go_wp2_with (first
      | (go_at_call 81; go_loud (refine (index_calls HH.out HL.out (some ⟨g, 0, none⟩) cap l HC.out HLL.out).mono ?_); rw [HX.out]; rintro e w1 ⟨rfl, hbw⟩; have HB1 := Aside0.mk hbw; have HO1 := Aside0.mk (Kd.R_below HO0.out hbw); clear hbw HO0 HC))
    go_loopg [5, 6, 7] (l.length - (k0 + 1)) (fun kq v5 v6 _ w' => ∃ (i j : Nat) (L : List S65), v5 = .int .i64 (i : Int) ∧ v6 = .int .i64 (j : Int) ∧ Aside0 (j + kq = l.length) ∧ Aside0 (i < j ∧ L.length = l.length) ∧ Aside0 (L.take i = delB at_ bans (l.take j)) ∧ Aside0 (L.drop j = l.drop j) ∧ Aside0 (Kd.R k65 65 w' w0.heap.size (fun _ => True) (.slice (some ⟨g, 0, none⟩) l.length cap) L) ∧ Aside0 (Ban w0 w' ga gb at_ A2 c2 bans) ∧ Aside0 (w.grownBy w' (some g)))
    case atStart => exact ⟨k0, k0 + 1, l, rfl, by first | rfl | (simp; done) | (go_num; done), ⟨by omega⟩, ⟨by omega, rfl⟩, ⟨by rw [delB_snoc at_ bans l k0 hk0, HBK.out, if_pos rfl, List.append_nil, delB_self HAL.out]⟩, ⟨rfl⟩, HO1, HH.out.below HB1.out |> Aside0.mk, ⟨below_grown HB1.out _⟩⟩
    case round =>
      clear HO1 HB1 HBK HAL HX hne
      obtain ⟨i, j, L, rfl, rfl, HJ, HI, HT, HD, HO, HBN, HG⟩ := hrel
      cases gk with
      | zero =>
        have hj : ¬ ((j : Nat) : Int) < (l.length : Int) := by have := HJ.out; omega
        have hil : i < L.length := by have := HI.out; have := HJ.out; omega
        have i0 : (0 : Int) ≤ (i : Int) := by omega
        have i1 : (i : Int) ≤ (l.length : Int) := by have := HI.out; omega
        have i2 : (l.length : Int) ≤ (cap : Int) := by have := HLC.out; omega
        have i3 : ¬ cap = i := by have := HLC.out; have := HI.out; omega
        have ht := HT.out
        rw [List.take_of_length_le (l := l) (by have := HJ.out; omega)] at ht
        have HT := Aside0.mk ht
        obtain ⟨w2, hcl, hg2, hc2⟩ := run_clear65 (by have := HO.out; rw [← HI.out.2] at this; exact this) i (cap - i) hil
        rw [HI.out.2] at hcl
        have HG2 := Aside0.mk hg2
        have HC2 := Aside0.mk hc2
        clear ht hg2 hc2
        go_wp2
        go_ret
        have hdl : i = (delB at_ bans l).length := by rw [← HT.out, List.length_take]; omega
        exact ⟨some ⟨g, 0, none⟩, cap, by rw [← hdl]; rfl, by rw [← hdl]; have := HLC.out; omega, by rw [← hdl, ← HT.out]; exact HC2.out, HBN.out.grown HG2.out HGA.out HGB.out HGE.out, HG.out.trans HG2.out⟩
      | succ k1 =>
        have hj : j < l.length := by have := HJ.out; omega
        have p0 : 0 ≤ ((j : Nat) : Int) := by omega
        have p1 : ((j : Nat) : Int) < (L.length : Int) := by have := HI.out; omega
        have p2 : ((j : Nat) : Int) < (l.length : Int) := by omega
        have q0 : (0 : Int) ≤ (i : Int) := by omega
        have q1 : (i : Int) < (l.length : Int) := by have := HI.out; omega
        have hjm : (j : Int) ≤ 1000000 := by have := HLL.out; omega
        have hjL : j < L.length := by have := HI.out; omega
        obtain ⟨hx0, hx1, hx2, hx3, hx4, hx5, hx6, hx7⟩ := elem65 HO.out j hjL
        have hLj : L[j] = l[j] := by
          have h1 := HD.out
          rw [List.drop_eq_getElem_cons hjL, List.drop_eq_getElem_cons hj] at h1
          exact (List.cons.inj h1).1
        have hd2 : L.drop (j + 1) = l.drop (j + 1) := by
          have h1 := HD.out
          rw [List.drop_eq_getElem_cons (show j < L.length by have := HI.out; omega), List.drop_eq_getElem_cons hj] at h1
          exact (List.cons.inj h1).2
        have hsn := delB_snoc at_ bans l j hj
        rw [hLj] at hx0 hx1 hx2 hx3 hx4 hx5 hx6 hx7
        obtain ⟨ed, Hed⟩ : ∃ ed, ed = l[j] := ⟨_, rfl⟩
        rw [← Hed] at hx0 hx1 hx2 hx3 hx4 hx5 hx6 hx7 hsn
        have HD2 := Aside0.mk hd2
        clear Hed hLj hd2
        cases hb : banB at_ bans ed with
        | true =>
          rw [hb, if_pos rfl, List.append_nil, ← HT.out] at hsn
          have HT2 := Aside0.mk hsn.symm
          have HBE := Aside0.mk hb
          clear hsn hb
          go_wp2_with (first
            | ((with_reducible refine gate_dst (N := 7) rfl ?_); go_loud (refine box2 7 rfl rfl rfl rfl rfl rfl #[.int .i64 ed.f0, .int .i64 ed.f1, .int .i64 ed.f2, .int .i64 ed.f3, .int .i64 ed.f4, .int .i64 ed.f5, .int .i64 ed.f6, .int .i64 ed.f7] info65 rfl rfl (by simp [Value.oneCell']) (by first | (go_simp; done) | (go_simp; rfl)) (by first | (go_simp; done) | (go_simp; rfl)) ?_); intro ge w5 hg hblk hbw hs; have HO5 := Aside0.mk (Kd.R_below HO.out hbw); have HBN5 := Aside0.mk (HBN.out.below hbw); have HG5 := Aside0.mk (HG.out.trans (below_grown hbw _)); have y0 := (blk_cell hblk 0).trans rfl; have y1 := (blk_cell hblk 1).trans rfl; have y2 := (blk_cell hblk 2).trans rfl; have y3 := (blk_cell hblk 3).trans rfl; have y4 := (blk_cell hblk 4).trans rfl; have y5 := (blk_cell hblk 5).trans rfl; have y6 := (blk_cell hblk 6).trans rfl; have y7 := (blk_cell hblk 7).trans rfl; clear hg hblk hbw hs HO HBN HG hx0 hx1 hx2 hx3 hx4 hx5 hx6 hx7)
            | (go_at_call 55; go_loud (refine (ban_calls HBN5.out HL.out ed).mono ?_); rw [HBE.out]; rintro e w6 ⟨rfl, hbw⟩; have HO6 := Aside0.mk (Kd.R_below HO5.out hbw); have HBN6 := Aside0.mk (HBN5.out.below hbw); have HG6 := Aside0.mk (HG5.out.trans (below_grown hbw _)); clear hbw HO5 HBN5 HG5 y0 y1 y2 y3 y4 y5 y6 y7))
          go_roundg k1
          case measure => omega
          case rel => exact ⟨i, j + 1, L, rfl, by first | rfl | (simp; done) | (go_num; done), ⟨by have := HJ.out; omega⟩, ⟨by have := HI.out; omega, HI.out.2⟩, HT2, HD2, HO6, HBN6, HG6⟩
        | false =>
          rw [hb, if_neg (by simp), ← HT.out] at hsn
          have hiL : i < L.length := by have := HI.out; omega
          have htk : (L.set i ed).take (i + 1) = delB at_ bans (l.take (j + 1)) := by
            rw [hsn, List.take_succ_eq_append_getElem (by rw [List.length_set]; exact hiL), List.getElem_set_self, List.take_set_of_le (Nat.le_refl i)]
          have hdr : (L.set i ed).drop (j + 1) = l.drop (j + 1) := by
            rw [List.drop_set_of_lt (by have := HI.out; omega)]
            exact HD2.out
          have HT2 := Aside0.mk htk
          have HDR := Aside0.mk hdr
          have HBE := Aside0.mk hb
          clear hsn hb htk hdr
          go_wp2_with (first
            | ((with_reducible refine gate_dst (N := 7) rfl ?_); go_loud (refine box2 7 rfl rfl rfl rfl rfl rfl #[.int .i64 ed.f0, .int .i64 ed.f1, .int .i64 ed.f2, .int .i64 ed.f3, .int .i64 ed.f4, .int .i64 ed.f5, .int .i64 ed.f6, .int .i64 ed.f7] info65 rfl rfl (by simp [Value.oneCell']) (by first | (go_simp; done) | (go_simp; rfl)) (by first | (go_simp; done) | (go_simp; rfl)) ?_); intro ge w5 hg hblk hbw hs; have HO5 := Aside0.mk (Kd.R_below HO.out hbw); have HBN5 := Aside0.mk (HBN.out.below hbw); have HG5 := Aside0.mk (HG.out.trans (below_grown hbw _)); have HK5 := Aside0.mk hblk; have y0 := (blk_cell hblk 0).trans rfl; have y1 := (blk_cell hblk 1).trans rfl; have y2 := (blk_cell hblk 2).trans rfl; have y3 := (blk_cell hblk 3).trans rfl; have y4 := (blk_cell hblk 4).trans rfl; have y5 := (blk_cell hblk 5).trans rfl; have y6 := (blk_cell hblk 6).trans rfl; have y7 := (blk_cell hblk 7).trans rfl; clear hg hblk hbw hs HO HBN HG hx0 hx1 hx2 hx3 hx4 hx5 hx6 hx7)
            | (go_at_call 55; go_loud (refine (ban_calls HBN5.out HL.out ed).mono ?_); rw [HBE.out]; rintro e w6 ⟨rfl, hbw⟩; have HO6 := Aside0.mk (Kd.R_below HO5.out hbw); have HBN6 := Aside0.mk (HBN5.out.below hbw); have HG6 := Aside0.mk (HG5.out.trans (below_grown hbw _)); have HK6 := Aside0.mk (blk_below HK5.out hbw); have z0 := (blk_cell HK6.out 0).trans rfl; have z1 := (blk_cell HK6.out 1).trans rfl; have z2 := (blk_cell HK6.out 2).trans rfl; have z3 := (blk_cell HK6.out 3).trans rfl; have z4 := (blk_cell HK6.out 4).trans rfl; have z5 := (blk_cell HK6.out 5).trans rfl; have z6 := (blk_cell HK6.out 6).trans rfl; have z7 := (blk_cell HK6.out 7).trans rfl; clear hbw HO5 HBN5 HG5 HK5 y0 y1 y2 y3 y4 y5 y6 y7; obtain ⟨ce, hcl, hcM, hcc, _⟩ := Kd.R_elem HO6.out z65 (i : Int) q0 q1; have HCL := Aside0.mk hcl; have HCC := Aside0.mk hcc; clear hcl hcM hcc)
            | ((with_reducible refine gate_store (t := 65) (p := 33) rfl ?_); go_loud (refine Kd.R_store k65 (w0 := w0) w0.heap.size rfl rfl 65 (.tmp 33) (.tmp 32) rfl 65 (g := g) (n := l.length) (cap := cap) (o' := i * 8) (i : Int) 0 L ed (.agg #[.int .i64 ed.f0, .int .i64 ed.f1, .int .i64 ed.f2, .int .i64 ed.f3, .int .i64 ed.f4, .int .i64 ed.f5, .int .i64 ed.f6, .int .i64 ed.f7]) [.int .i64 ed.f0, .int .i64 ed.f1, .int .i64 ed.f2, .int .i64 ed.f3, .int .i64 ed.f4, .int .i64 ed.f5, .int .i64 ed.f6, .int .i64 ed.f7] ce (fun _ => True) (fun _ => False) rfl rfl rfl rfl (by rfl) (by simp [Value.oneCell']) HO6.out q0 q1 HCL.out HCC.out (Nat.le_refl 8) (k65_seg _ _ _ ed ce HCL.out) (fun _ h => h.elim) HBN6.out.W ?_); intro w8 ho8 hb8 hg8; have HO8 := Aside0.mk ho8; have HBN8 := Aside0.mk (HBN6.out.grown hg8 HGA.out HGB.out HGE.out); have HG8 := Aside0.mk (HG6.out.trans hg8); clear ho8 hb8 hg8 HO6 HBN6 HG6))
          go_roundg k1
          case measure => omega
          case rel => exact ⟨i + 1, j + 1, L.set i ed, by first | rfl | (simp; done) | (go_num; done), by first | rfl | (simp; done) | (go_num; done), ⟨by have := HJ.out; omega⟩, ⟨by have := HI.out; omega, by rw [List.length_set]; exact HI.out.2⟩, HT2, HDR, HO8, HBN8, HG8⟩
end Go.Proofs.Ytijflnpgiegajaa.Q
end
