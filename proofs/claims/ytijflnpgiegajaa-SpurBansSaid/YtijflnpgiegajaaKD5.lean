/- Part 5 of the texts behind the statement that the last text of this claim proves. -/
import Derived.Test.YtijflnpgiegajaaKD0
import Derived.Test.YtijflnpgiegajaaKD1
import Derived.Test.YtijflnpgiegajaaKD2
import Derived.Test.YtijflnpgiegajaaKD3
import Derived.Test.YtijflnpgiegajaaKD4
section
namespace Go.Proofs.Ytijflnpgiegajaa.Q
open Go.RowKit Go.Proofs.YtijflnpgiegajaaW.PrintWords Go.Proofs.YtijflnpgiegajaaW.PrintLast Go.Proofs.YtijflnpgiegajaaW.PrintMore Go.Proofs.Ytijflnpgiegajaa.IM Go.Proofs.Ytijflnpgiegajaa.Ev
set_option linter.unusedVariables false
set_option linter.unusedSimpArgs false
def lastN (nd : List Int) : Int := rd nd ((nd.length : Int) - 1)
def spurGo (l : List S65) (bans : List Int) (dst size by_ : Int) (hops : List S56) (nd : List Int) (now : Int) : Option (List S56 × Int × Bool) :=
  if nd.Nodup then (least_Route.f (delB (lastN nd) bans l) (lastN nd) dst (arriveT now hops) size by_ nd).map (fun x => if x.2.2 = true then (hops ++ x.1, x.2.1, true) else ([], 0, false)) else some ([], 0, false)
def spur_Route.f (l0 : List S65) (l1 l2 : List Int) (a3 a4 a5 a6 a7 : Int) : Option (List S56 × Int × Bool) :=
  if l0.length ≤ 1000000 ∧ l1.length < 1000000 ∧ l2.length ≤ 1000000 then (match walkP l0 l1 a3 a5 a6, endsP l0 l1 a3 with
    | some h, some n => if h.length ≤ 1000000 ∧ n.length ≤ 1000000 then (spurGo l0 l2 a4 a6 a7 h n a5).bind (fun x => if x.1.length ≤ 1000000 then some x else none) else none
    | _, _ => some ([], 0, false)) else none
structure SP (w0 w : World) (g gb : Nat) (A2 : Option Addr) (c2 : Nat) (bans : List Int) (Ah : Option Addr) (ch : Nat) (hops : List S56) (An : Option Addr) (cn : Nat) (nd : List Int) : Prop where
  B : Below w0.heap.size w0 w
  K : w.heap[g]? = some (.cells #[.slice none 0 0, .int .i64 0] 27 (0, 0))
  D : w.heap[gb]? = some (.cells #[.slice A2 bans.length c2] 23 (0, 0))
  H : Kd.R k56 56 w w0.heap.size (fun _ => True) (.slice Ah hops.length ch) hops
  N : Kd.R (Kd.int .i64) 3 w w0.heap.size (fun _ => True) (.slice An nd.length cn) nd
  GE : w0.heap.size ≤ g
section
variable {w0 w w' : World} {g gb : Nat} {A2 : Option Addr} {c2 : Nat} {bans : List Int} {Ah : Option Addr} {ch : Nat} {hops : List S56} {An : Option Addr} {cn : Nat} {nd : List Int}
theorem SP.below (h : SP w0 w g gb A2 c2 bans Ah ch hops An cn nd) (hb : Below w.heap.size w w') : SP w0 w' g gb A2 c2 bans Ah ch hops An cn nd :=
  ⟨below_step h.B hb, blk_below h.K hb, blk_below h.D hb, Kd.R_below h.H hb, Kd.R_below h.N hb, h.GE⟩
theorem SP.map (h : SP w0 w g gb A2 c2 bans Ah ch hops An cn nd) {b : Nat} {m : List (Int × Value)} (hm : IMap w b m) (hg : w.grownBy w' (some b)) (hb : w0.heap.size ≤ b) : SP w0 w' g gb A2 c2 bans Ah ch hops An cn nd :=
  ⟨below_grown_one h.B hg hb, blk_mapstore h.K hm hg, blk_mapstore h.D hm hg, R_mapstore h.H hm hg, R_mapstore h.N hm hg, h.GE⟩
theorem SP.own (h : SP w0 w g gb A2 c2 bans Ah ch hops An cn nd) {v : Value} {l : List S65} (HO : Kd.R k65 65 w w0.heap.size (fun _ => True) v l) (hg : w.grownBy w' v.ownBlock) : SP w0 w' g gb A2 c2 bans Ah ch hops An cn nd :=
  ⟨h.B.grown hg h.B.size (fun k hk => Kd.R_base HO k hk), blk_grown h.K hg (Kd.R_ne HO h.K (by decide)), blk_grown h.D hg (Kd.R_ne HO h.D (by decide)), Kd.R_over h.H HO (by decide) hg, Kd.R_over h.N HO (by decide) hg, h.GE⟩
end
theorem SP.put29 {w0 w w' : World} {g gb : Nat} {A2 : Option Addr} {c2 : Nat} {bans : List Int} {Ah : Option Addr} {ch : Nat} {hops : List S56} {An : Option Addr} {cn : Nat} {nd : List Int} (h : SP w0 w g gb A2 c2 bans Ah ch hops An cn nd) {q : Nat} {cur : Array Value} (hq : w.heap[q]? = some (.cells cur 27 (0, 0))) (hg : w.grownBy w' (some q)) (hn : q ≠ g) (hb : w0.heap.size ≤ q) : SP w0 w' g gb A2 c2 bans Ah ch hops An cn nd :=
  ⟨below_grown_one h.B hg hb, blk_grown h.K hg (fun e => by injection e with e; exact hn e.symm), blk_grown h.D hg (fun e => by injection e with e; have := h.D; rw [e, hq] at this; injection this with this; injection this with _ this; exact absurd this (by decide)), R_store h.H hq (by decide) hg, R_store h.N hq (by decide) hg, h.GE⟩
structure VC (w0 w : World) (ga gb : Nat) (v : Value) (l : List S65) : Prop where
  R : Kd.R k65 65 w w0.heap.size (fun _ => True) v l
  a : some ga ≠ v.ownBlock
  b : some gb ≠ v.ownBlock
theorem VC.below {w0 w w' : World} {ga gb : Nat} {v : Value} {l : List S65} (h : VC w0 w ga gb v l) (hb : Below w.heap.size w w') : VC w0 w' ga gb v l := ⟨Kd.R_below h.R hb, h.a, h.b⟩
theorem k56_KM {w w' : World} {base : Nat} {ok : Nat → Prop} (x : S56) (cs : List Value) (h : k56.K w x cs) : k56.M w' base ok x cs := by
  rw [k56_open h]
  exact k56_mkM w' base ok x
theorem alloc_step {P : Program} {ops : Array Oper} {o : Oper} {a : Act} {Q : Exit → Act → World → Prop} {Kc : Act → World → Prop} {W : World} {t : TypeId} (hw : Region.wanted o (yielded ops a.tmps) = true) (ho : o.op = .alloc t) {zs : Array Value} {n bytes : Nat}
    (hz0 : (P.info? t).map (fun i => (i.zero, i.size, i.bytes)) = some (some (.agg zs), n, bytes))
    (h : ∀ g w1, g = W.heap.size → w1.heap[g]? = some (.cells zs t (0, 0)) → Below W.heap.size W w1 → Kc (a.put o.dst (.pointer (some ⟨g, 0, none⟩))) w1) :
    if Region.wanted o (yielded ops a.tmps) = true then Oper.wp P o a W Kc Q else Kc (a.put o.dst undef) W := by
  rw [if_pos hw]
  have hzero : ∀ w, (zeroValue t).run P w = .ok (.agg zs) w := by
    cases hq : P.info? t with
    | none => simp [hq] at hz0
    | some i => simp [hq] at hz0; intro w; simp [zeroValue, typeInfo, hq, hz0]
  have h1 : (execOp a.eval o).run P W = .ok (.value (.pointer (some ⟨W.heap.size, 0, none⟩))) (W.alloc (.cells zs t (0, 0))) := by
    simp [execOp, ho, Instr.alloc, hzero, Result.andThen, newVar, newRow, Value.cells]
  unfold Oper.wp
  rw [h1]
  exact h _ _ rfl (blk_new W _) (below_alloc (Below.refl _ _) _)
set_option maxHeartbeats 16000000 in
set_option maxRecDepth 100000 in
theorem spur_Route.calls (A0 : Option Addr) (c0 : Nat) (l0 : List (S65)) (A1 : Option Addr) (c1 : Nat) (l1 : List Int) (A2 : Option Addr) (c2 : Nat) (l2 : List Int) (a3 : Int) (a4 : Int) (a5 : Int) (a6 : Int) (a7 : Int) (r1 : List (S56)) (r2 : Int) (r3 : Bool) (w : World) (hr0 : Kd.C k65 w A0 l0.length l0) (hc0 : l0.length ≤ c0) (hr1 : Kd.C (Kd.int .i64) w A1 l1.length l1) (hc1 : l1.length ≤ c1) (hr2 : Kd.C (Kd.int .i64) w A2 l2.length l2) (hc2 : l2.length ≤ c2) (h : spur_Route.f l0 l1 l2 a3 a4 a5 a6 a7 = some (r1, r2, r3)) :
    Calls Try.prog 25 #[.slice A0 l0.length c0, .slice A1 l1.length c1, .slice A2 l2.length c2, .int .i64 a3, .int .i64 a4, .int .i64 a5, .int .i64 a6, .int .i64 a7] w fun e w' => ∃ v0_ : Value, e = .returned (.tuple #[.agg #[v0_, .int .i64 r2], .bool r3]) ∧ Kd.R k56 56 w' w.heap.size (fun _ => True) v0_ r1 ∧ Below w.heap.size w w' := by
  unfold spur_Route.f at h
  split at h
  case isFalse => exact absurd h (by simp)
  rename_i hlen
  have HR0 := Aside0.mk hr0
  have HC0 := Aside0.mk hc0
  have HR1 := Aside0.mk hr1
  have HC1 := Aside0.mk hc1
  have HR2 := Aside0.mk hr2
  have HC2 := Aside0.mk hc2
  have HLN := Aside0.mk hlen
  have HB := Aside0.mk (Below.refl w.heap.size w)
  have hk : l0.length + l1.length + 1 < l0.length + l1.length + 2 := Nat.lt_succ_self _
  have HWk := Aside0.mk (path_Walk_eq l0 hlen.1 l1 hlen.2.1 (l0.length + l1.length + 2) hk a3 a5 a6)
  have HEk := Aside0.mk (path_Ends_eq l0 hlen.1 l1 hlen.2.1 (l0.length + l1.length + 2) hk a3)
  clear hr0 hc0 hr1 hc1 hr2 hc2 hlen hk
  cases hw : walkP l0 l1 a3 a5 a6 with
  | none =>
    have hW := HWk.out
    rw [hw] at hW h
    simp only [Option.some.injEq, Prod.mk.injEq] at h
    obtain ⟨rfl, rfl, rfl⟩ := h
    obtain ⟨⟨en1, en2⟩, hE⟩ : ∃ p, path_Ends.f (l0.length + l1.length + 2) l0 l1 a3 = some p := ⟨_, HEk.out⟩
    clear HWk HEk hw
    have HWk := Aside0.mk hW
    have HEk := Aside0.mk hE
    clear hW hE
    go_enter Try.func25, Try.ntmps25
    go_wp2_with (first
      | ((with_reducible refine gate_dst (N := 10) rfl ?_); refine box_event ?hg (N := 10) ?hd (cs := #[.slice A2 l2.length c2]) (t := 23) ?hr ?_; (case hd => rfl); (case hg => rfl); (case hr => first | (go_simp; done) | (go_simp; rfl)); intro gb hgb w1 hbox hb; have HB1 := Aside0.mk (below_step HB.out hb); have HD1 := Aside0.mk hbox; clear hgb hb hbox HB)
      | ((with_reducible refine gate_dst (N := 16) rfl ?_); refine box1 16 rfl rfl rfl info27 ?_; intro g w2 hg hblk hbw hs; have HB2 := Aside0.mk (below_step HB1.out hbw); have HK2 := Aside0.mk hblk; have HGE := Aside0.mk (Nat.le_trans HB1.out.size (Nat.le_of_eq hg.symm)); clear hg hblk hbw hs HB1)
      | (go_at_call 51; go_loud (refine (path_Walk.calls (l0.length + l1.length + 2) A0 c0 l0 A1 c1 l1 a3 a5 a6 [] false _ (Kd.C_below HR0.out HB2.out) HC0.out (Kd.C_below HR1.out HB2.out) HC1.out HWk.out).mono ?_); rintro e w4 ⟨vh, rfl, hoh, hbh⟩; have HB4 := Aside0.mk (below_step HB2.out hbh); have HK4 := Aside0.mk (blk_below HK2.out hbh); clear hoh hbh HB2 HK2)
      | (go_at_call 16; go_loud (refine (path_Ends.calls (l0.length + l1.length + 2) A0 c0 l0 A1 c1 l1 a3 en1 en2 _ (Kd.C_below HR0.out HB4.out) HC0.out (Kd.C_below HR1.out HB4.out) HC1.out HEk.out).mono ?_); rintro e w5 ⟨vn, rfl, hon, hbn⟩; have HB5 := Aside0.mk (below_step HB4.out hbn); have HK5 := Aside0.mk (blk_below HK4.out hbn); clear hon hbn HB4 HK4)
      | ((with_reducible refine gate_store (t := 27) (p := 16) rfl ?_); go_loud (refine store_part 16 rfl rfl rfl rfl g 0 _ #[.slice none 0 0, .int .i64 0] #[.slice none 0 0, .int .i64 0] HK5.out rfl rfl info27 rfl (by simp) (by simp [Value.oneCell']) (by simp) ?_); intro w9 hblk9 hg9 hs9; have HBz := Aside0.mk (below_grown_one HB5.out hg9 HGE.out); have HKz := Aside0.mk hblk9; clear hblk9 hg9 hs9))
    refine bodyPost_ret (results_ct rfl _ _ g 27 #[.slice none 0 0, .int .i64 0] (0, 0) _ rfl HKz.out Try.underlying27 rfl (by kernel_rfl)) rfl ?_
    exact ⟨_, rfl, Kd.R_nil _ _ _ _ _, HBz.out⟩
  | some hops =>
    obtain ⟨ns, hns, hnl⟩ := walk_ends hw
    have hW := HWk.out
    have hE := HEk.out
    rw [hw] at hW h
    rw [hns] at hE h
    simp only at h hE
    split at h
    case isFalse => exact absurd h (by simp)
    rename_i hsz
    have HWk := Aside0.mk hW
    have HEk := Aside0.mk hE
    have HSZ := Aside0.mk hsz
    have hnd0 : 0 < (a3 :: ns).length := by simp
    have hnd1 : (a3 :: ns).length ≤ 1000000 := hsz.2
    have hhl : hops.length ≤ 1000000 := hsz.1
    obtain ⟨nd, Hnd⟩ : ∃ nd, nd = a3 :: ns := ⟨_, rfl⟩
    rw [← Hnd] at hnd0 hnd1 HEk h HSZ
    clear Hnd hnl hns hE hW hw hsz
    rw [Option.bind_eq_some_iff] at h
    obtain ⟨⟨y1, y2, y3⟩, hgo, h⟩ := h
    split at h
    case isFalse => exact absurd h (by simp)
    rename_i hy1
    simp only [Option.some.injEq, Prod.mk.injEq] at h
    obtain ⟨rfl, rfl, rfl⟩ := h
    have HGO := Aside0.mk hgo
    have HY1 := Aside0.mk hy1
    clear hgo hy1
    go_enter Try.func25, Try.ntmps25
    go_wp2_with (first
      | ((with_reducible refine gate_dst (N := 10) rfl ?_); refine box_event ?hg (N := 10) ?hd (cs := #[.slice A2 l2.length c2]) (t := 23) ?hr ?_; (case hd => rfl); (case hg => rfl); (case hr => first | (go_simp; done) | (go_simp; rfl)); intro gb hgb w1 hbox hb; have HB1 := Aside0.mk (below_step HB.out hb); have HD1 := Aside0.mk hbox; clear hgb hb hbox HB)
      | ((with_reducible refine gate_dst (N := 16) rfl ?_); refine box1 16 rfl rfl rfl info27 ?_; intro g w2 hg hblk hbw hs; have HB2 := Aside0.mk (below_step HB1.out hbw); have HD2 := Aside0.mk (blk_below HD1.out hbw); have HK2 := Aside0.mk hblk; have HGE := Aside0.mk (Nat.le_trans HB1.out.size (Nat.le_of_eq hg.symm)); clear hg hblk hbw hs HB1 HD1)
      | (go_at_call 51; go_loud (refine (path_Walk.calls (l0.length + l1.length + 2) A0 c0 l0 A1 c1 l1 a3 a5 a6 hops true _ (Kd.C_below HR0.out HB2.out) HC0.out (Kd.C_below HR1.out HB2.out) HC1.out HWk.out).mono ?_); rintro e w4 ⟨vh, rfl, hoh, hbh⟩; obtain ⟨Ah, ch, rfl, hch, _⟩ := Kd.R_reads hoh; have HH4 := Aside0.mk (Kd.R_lower hoh (below_size HB2.out)); have HB4 := Aside0.mk (below_step HB2.out hbh); have HD4 := Aside0.mk (blk_below HD2.out hbh); have HK4 := Aside0.mk (blk_below HK2.out hbh); clear hoh hbh HB2 HK2 HD2)
      | (go_at_call 16; go_loud (refine (path_Ends.calls (l0.length + l1.length + 2) A0 c0 l0 A1 c1 l1 a3 nd true _ (Kd.C_below HR0.out HB4.out) HC0.out (Kd.C_below HR1.out HB4.out) HC1.out HEk.out).mono ?_); rintro e w5 ⟨vn, rfl, hon, hbn⟩; obtain ⟨An, cn, rfl, hcn, hrn⟩ := Kd.R_reads hon; have HS5 := Aside0.mk (show SP w w5 g gb A2 c2 l2 Ah ch hops An cn nd from ⟨below_step HB4.out hbn, blk_below HK4.out hbn, blk_below HD4.out hbn, Kd.R_below HH4.out hbn, Kd.R_lower hon (below_size HB4.out), HGE.out⟩); clear hon hbn hrn HB4 HK4 HD4 HH4)
      | ((with_reducible refine gate_dst (N := 49) rfl ?_); refine im_make 49 rfl rfl rfl ?_; intro b w6 hb hm hbw hs; have HGB := Aside0.mk (Nat.le_trans HS5.out.B.size (Nat.le_of_eq hb.symm)); have HM := Aside0.mk hm; have HS := Aside0.mk (HS5.out.below hbw); clear hm hbw hs hb HS5))
    go_loopg [24, 52] nd.length (fun kq _ v52 w' => ∃ (i : Nat) (m : List (Int × Bool)), v52 = .int .i64 (i : Int) ∧ Aside0 (i + kq = nd.length) ∧ Aside0 ((nd.take i).Nodup) ∧ Aside0 (∀ x, (aget m x).getD false = decide (x ∈ nd.take i)) ∧ Aside0 (IMap w' b (m.map fun p => (p.1, Value.bool p.2))) ∧ Aside0 (SP w w' g gb A2 c2 l2 Ah ch hops An cn nd))
    case atStart => exact ⟨0, [], rfl, ⟨by omega⟩, ⟨by simp⟩, ⟨by simp [aget]⟩, HM, HS⟩
    case round =>
      clear HM HS
      obtain ⟨i, m, rfl, HI, HU, HV, HM, HS⟩ := hrel
      cases gk with
      | succ k1 =>
        have hi : i < nd.length := by have := HI.out; omega
        have p0 : 0 ≤ ((i : Nat) : Int) := by omega
        have p1 : ((i : Nat) : Int) < (nd.length : Int) := by omega
        obtain ⟨ad, e0, hx0⟩ := Kd.at_int (Kd.R_reads' HS.out.N).2.2 (i : Int) p0 p1
        cases e0
        rw [Int.toNat_natCast] at hx0
        obtain ⟨x, hx⟩ : ∃ x, x = rd nd (i : Int) := ⟨_, rfl⟩
        rw [← hx] at hx0
        have hxe : nd[i] = x := by rw [hx, rdI nd i hi]
        clear hx
        by_cases hin : x ∈ nd.take i
        · have hbt : (aget m x).getD false = true := by rw [HV.out]; exact decide_eq_true hin
          have hF := HGO.out
          unfold spurGo at hF
          rw [if_neg (fun hnd => by
            have h2 := List.take_append_drop i nd
            rw [← h2, List.nodup_append] at hnd
            exact hnd.2.2 x hin x (by rw [List.drop_eq_getElem_cons hi, hxe]; exact List.mem_cons_self) rfl)] at hF
          simp only [Option.some.injEq, Prod.mk.injEq] at hF
          obtain ⟨rfl, rfl, rfl⟩ := hF
          have HBT := Aside0.mk hbt
          clear hbt HGO hin HV HU hxe
          go_wp2_with (first
            | (at_lookup; go_loud (refine im_look1 Value.bool false 58 rfl rfl rfl Try.underlying73 Try.underlying3 zero4 b m x rfl rfl HM.out ?_); rw [HBT.out])
            | ((with_reducible refine gate_store (t := 27) (p := 16) rfl ?_); go_loud (refine store_part 16 rfl rfl rfl rfl g 0 _ #[.slice none 0 0, .int .i64 0] #[.slice none 0 0, .int .i64 0] HS.out.K rfl rfl info27 rfl (by simp) (by simp [Value.oneCell']) (by simp) ?_); intro w9 hblk9 hg9 hs9; have HBz := Aside0.mk (below_grown_one HS.out.B hg9 HS.out.GE); have HKz := Aside0.mk hblk9; clear hblk9 hg9 hs9))
          refine bodyPost_ret (results_ct rfl _ _ g 27 #[.slice none 0 0, .int .i64 0] (0, 0) _ rfl HKz.out Try.underlying27 rfl (by kernel_rfl)) rfl ?_
          exact ⟨_, rfl, Kd.R_nil _ _ _ _ _, HBz.out⟩
        · have hbt : (aget m x).getD false = false := by rw [HV.out]; exact decide_eq_false hin
          have HBT := Aside0.mk hbt
          have HIN := Aside0.mk hin
          have HXE := Aside0.mk hxe
          clear hbt hin hxe
          go_wp2_with (first
            | (at_lookup; go_loud (refine im_look1 Value.bool false 58 rfl rfl rfl Try.underlying73 Try.underlying3 zero4 b m x rfl rfl HM.out ?_); rw [HBT.out])
            | (at_mapUpdate; go_loud (refine im_store Value.bool rfl rfl rfl Try.underlying73 Try.underlying3 b m x true rfl rfl rfl HM.out ?_); intro w7 hm7 hg7 hs7; have HM7 := Aside0.mk hm7; have HS7 := Aside0.mk (HS.out.map HM.out hg7 HGB.out); clear hm7 hg7 hs7 HM HS))
          go_roundg k1
          case measure => omega
          case rel => exact ⟨i + 1, aset m x true, by first | rfl | (simp; done) | (go_num; done), ⟨by have := HI.out; omega⟩, ⟨by
            rw [List.take_succ_eq_append_getElem hi, HXE.out, List.nodup_append]
            exact ⟨HU.out, by simp, fun a ha b hb e => HIN.out (by simp at hb; rw [← hb, ← e]; exact ha)⟩⟩, ⟨fun z => by
            rw [aget_aset, List.take_succ_eq_append_getElem hi, HXE.out]
            by_cases hz : x = z
            · subst hz; simp
            · rw [if_neg hz, HV.out]
              simp [Ne.symm hz]⟩, HM7, HS7⟩
      | zero =>
        have hi : ¬ ((i : Nat) : Int) < (nd.length : Int) := by have := HI.out; omega
        have hU := HU.out
        rw [List.take_of_length_le (by have := HI.out; omega)] at hU
        have hF := HGO.out
        unfold spurGo at hF
        rw [if_pos hU, Option.map_eq_some_iff] at hF
        obtain ⟨⟨x1, x2, x3⟩, hle, hxx⟩ := hF
        have HLE := Aside0.mk hle
        have HXX := Aside0.mk hxx
        obtain ⟨adn, en, hxn⟩ := Kd.at_int (Kd.R_reads' HS.out.N).2.2 ((nd.length : Int) - 1) (by omega) (by omega)
        cases en
        rw [show ((nd.length : Int) - 1).toNat = nd.length - 1 from by omega] at hxn
        obtain ⟨at_, Hat⟩ : ∃ at_, at_ = lastN nd := ⟨_, rfl⟩
        have hxn2 : _ = some (Value.int .i64 at_) := hxn.trans (by rw [Hat]; rfl)
        rw [← Hat] at HLE
        clear hU hxx hle HU HV HM HI HGO hxn Hat
        have hx3 := hxn2
        clear hxn2
        obtain ⟨wA, rfl⟩ : ∃ wA : World, wA = wr := ⟨_, rfl⟩
        go_wp2
        obtain ⟨ga, W, hga, hW⟩ : ∃ ga W, ga = wA.heap.size ∧ W = wA.alloc (.cells #[.int .i64 at_] 3) := ⟨_, _, rfl, rfl⟩
        rw [← hW, ← hga]
        have hbw : Below wA.heap.size wA W := by rw [hW]; exact below_alloc (Below.refl _ _) _
        have HS1 := Aside0.mk (HS.out.below hbw)
        have HBN := Aside0.mk (show Ban w W ga gb at_ A2 c2 l2 from ⟨by rw [hW, hga]; exact blk_new wA _, HS1.out.D, HR2.out, HC2.out, HS1.out.B⟩)
        clear hW hga hbw HS hx3
        go_loopg [5, 27, 71] hops.length (fun kq v5 _ v71 w' => ∃ i : Nat, v71 = .int .i64 (i : Int) ∧ v5 = .int .i64 (arriveT a5 (hops.take i)) ∧ Aside0 (i + kq = hops.length) ∧ Aside0 (SP w w' g gb A2 c2 l2 Ah ch hops (some adn) cn nd) ∧ Aside0 (Ban w w' ga gb at_ A2 c2 l2))
        case atStart => exact ⟨0, rfl, rfl, ⟨by omega⟩, HS1, HBN⟩
        case round =>
          clear HS1 HBN
          obtain ⟨i, rfl, rfl, HI, HS, HBN⟩ := hrel
          cases gk with
          | succ k1 =>
            have hi : i < hops.length := by have := HI.out; omega
            have p0 : 0 ≤ ((i : Nat) : Int) := by omega
            have p1 : ((i : Nat) : Int) < (hops.length : Int) := by omega
            obtain ⟨ad, e0, hx0, hx1, hx2⟩ := at_T56 (Kd.R_reads' HS.out.H).2.2 (i : Int) p0 p1
            cases e0
            rw [Int.toNat_natCast] at hx0 hx1 hx2
            obtain ⟨hp, hhp⟩ : ∃ hp, hp = rd_T56 hops (i : Int) := ⟨_, rfl⟩
            rw [← hhp] at hx0 hx1 hx2
            have HHP := Aside0.mk (show hops[i] = hp by rw [hhp, rd56 hops i hi])
            clear hhp
            go_wp2_with (first
              | ((with_reducible refine gate_dst (N := 27) rfl ?_); go_loud (refine box2 27 rfl rfl rfl rfl rfl rfl #[.int .i64 hp.f0, .int .i64 hp.f1, .int .i64 hp.f2] info56 rfl rfl (by simp [Value.oneCell']) (by first | (go_simp; done) | (go_simp; rfl)) (by first | (go_simp; done) | (go_simp; rfl)) ?_); intro gh w8 hg hblk hbw hs; have HS2 := Aside0.mk (HS.out.below hbw); have HBN2 := Aside0.mk (HBN.out.below hbw); have y0 := (blk_cell hblk 0).trans rfl; have y1 := (blk_cell hblk 1).trans rfl; have y2 := (blk_cell hblk 2).trans rfl; clear hg hblk hbw hs HS HBN hx0 hx1 hx2))
            go_roundg k1
            case measure => omega
            case rel => exact ⟨i + 1, by first | rfl | (simp; done) | (go_num; done), by rw [List.take_succ_eq_append_getElem hi, HHP.out]; simp [arriveT, List.foldl_append], ⟨by have := HI.out; omega⟩, HS2, HBN2⟩
          | zero =>
            have hi : ¬ ((i : Nat) : Int) < (hops.length : Int) := by have := HI.out; omega
            have hta : hops.take i = hops := List.take_of_length_le (by have := HI.out; omega)
            rw [hta]
            obtain ⟨nw, hnw⟩ : ∃ nw, nw = arriveT a5 hops := ⟨_, rfl⟩
            rw [← hnw]
            rw [← hnw] at HLE
            clear hnw hta HI
            go_wp2
            refine start_ (n := 17) (S := fun w' => w'.cell? ⟨ga, 0, none⟩ = some (.int .i64 at_)) (ds := [15, 16]) #[false, false, false, false, false, false, false, false, false, false, false, false, false, false, false, false, false] (by kernel_rfl) rfl rfl ((blk_cell HBN.out.A 0).trans rfl) (fun hHeld => ?_)
            refine pure_ (i := 0) (N := (some 80)) (v := ?_) (a' := ?_) #[true, false, false, false, false, false, false, false, false, false, false, false, false, false, false, false, false] rfl rfl (by kernel_rfl) (fun _ _ _ h => h) (Or.inl ⟨by rfl, ?_⟩) ?_ ?_
            rotate_left
            · intro w'
              go_simp
              with_reducible rfl
            rotate_left
            · simp only [Act.put, List.setIfInBounds_toArray, List.set_cons_zero, List.set_cons_succ, i64_w, i32_w]
              rfl
            refine pure_ (i := 2) (N := (some 82)) (v := ?_) (a' := ?_) #[true, false, true, false, false, false, false, false, false, false, false, false, false, false, false, false, false] rfl rfl (by kernel_rfl) (fun _ _ _ h => h) (Or.inl ⟨by rfl, ?_⟩) ?_ ?_
            rotate_left
            · intro w'
              go_simp
              with_reducible rfl
            rotate_left
            · simp only [Act.put, List.setIfInBounds_toArray, List.set_cons_zero, List.set_cons_succ, i64_w, i32_w]
              rfl
            refine take_ (i := 4) (N := (some 84)) (v := ?_) (a' := ?_) #[true, false, true, false, true, false, false, false, false, false, false, false, false, false, false, false, false] rfl rfl (by kernel_rfl) (fun _ _ _ h => h) (Or.inl ⟨by rfl, ?_⟩) hHeld ?_ ?_
            rotate_left
            · rintro w' s0
              go_simp
              with_reducible rfl
            rotate_left
            · simp only [Act.put, List.setIfInBounds_toArray, List.set_cons_zero, List.set_cons_succ, i64_w, i32_w]
              rfl
            refine pure_ (i := 5) (N := (some 85)) (v := ?_) (a' := ?_) #[true, false, true, false, true, true, false, false, false, false, false, false, false, false, false, false, false] rfl rfl (by kernel_rfl) (fun _ _ _ h => h) (Or.inl ⟨by rfl, ?_⟩) ?_ ?_
            rotate_left
            · intro w'
              go_simp
              with_reducible rfl
            rotate_left
            · simp only [Act.put, List.setIfInBounds_toArray, List.set_cons_zero, List.set_cons_succ, i64_w, i32_w]
              rfl
            refine pure_ (i := 6) (N := (some 86)) (v := ?_) (a' := ?_) #[true, false, true, false, true, true, true, false, false, false, false, false, false, false, false, false, false] rfl rfl (by kernel_rfl) (fun _ _ _ h => h) (Or.inl ⟨by rfl, ?_⟩) ?_ ?_
            rotate_left
            · intro w'
              go_simp
              with_reducible rfl
            rotate_left
            · simp only [Act.put, List.setIfInBounds_toArray, List.set_cons_zero, List.set_cons_succ, i64_w, i32_w]
              rfl
            refine pure_ (i := 7) (N := (some 87)) (v := ?_) (a' := ?_) #[true, false, true, false, true, true, true, true, false, false, false, false, false, false, false, false, false] rfl rfl (by kernel_rfl) (fun _ _ _ h => h) (Or.inl ⟨by rfl, ?_⟩) ?_ ?_
            rotate_left
            · intro w'
              go_simp
              with_reducible rfl
            rotate_left
            · simp only [Act.put, List.setIfInBounds_toArray, List.set_cons_zero, List.set_cons_succ, i64_w, i32_w]
              rfl
            refine pure_ (i := 8) (N := (some 88)) (v := ?_) (a' := ?_) #[true, false, true, false, true, true, true, true, true, false, false, false, false, false, false, false, false] rfl rfl (by kernel_rfl) (fun _ _ _ h => h) (Or.inl ⟨by rfl, ?_⟩) ?_ ?_
            rotate_left
            · intro w'
              go_simp
              with_reducible rfl
            rotate_left
            · simp only [Act.put, List.setIfInBounds_toArray, List.set_cons_zero, List.set_cons_succ, i64_w, i32_w]
              rfl
            refine pure_ (i := 9) (N := (some 89)) (v := ?_) (a' := ?_) #[true, false, true, false, true, true, true, true, true, true, false, false, false, false, false, false, false] rfl rfl (by kernel_rfl) (fun _ _ _ h => h) (Or.inl ⟨by rfl, ?_⟩) ?_ ?_
            rotate_left
            · intro w'
              go_simp
              with_reducible rfl
            rotate_left
            · simp only [Act.put, List.setIfInBounds_toArray, List.set_cons_zero, List.set_cons_succ, i64_w, i32_w]
              rfl
            have HSd := Aside0.mk (HS.out.below (below_drew (Below.refl _ _)))
            have HBd := Aside0.mk (HBN.out.below (below_drew (Below.refl _ _)))
            clear HS HBN
            refine join_ (σ := Value × Option Addr × Nat × Option Addr × Nat × Nat) 2 #[true, true, true, true, true, true, true, true, true, true, true, true, true, true, true, false, false] (fun s => [(81, s.1), (83, .slice s.2.1 (delB at_ l2 l0).length s.2.2.1), (90, .tuple #[.agg #[.slice s.2.2.2.1 x1.length s.2.2.2.2.1, .int .i64 x2], .bool x3]), (79, .tuple #[.agg #[.slice s.2.2.2.1 x1.length s.2.2.2.2.1, .int .i64 x2], .bool x3]), (91, .agg #[.slice s.2.2.2.1 x1.length s.2.2.2.2.1, .int .i64 x2]), (92, .bool x3), (29, .pointer (some ⟨s.2.2.2.2.2, 0, none⟩))]) (fun s w' => SP w w' g gb A2 c2 l2 Ah ch hops (some adn) cn nd ∧ Kd.R k56 56 w' w.heap.size (fun _ => True) (.slice s.2.2.2.1 x1.length s.2.2.2.2.1) x1 ∧ w'.heap[s.2.2.2.2.2]? = some (.cells #[.slice none 0 0, .int .i64 0] 27 (0, 0)) ∧ (w.heap.size ≤ s.2.2.2.2.2 ∧ s.2.2.2.2.2 ≠ g)) ?_ (fun hc => ?_)
            rotate_left
            · refine two_ (i := 1) (j := 14) (Ni := some 81) (Nj := some 29) #[true, true, true, false, true, true, true, true, true, true, false, false, false, false, false, false, false] #[true, false, true, false, true, true, true, true, true, true, false, false, false, false, true, false, false] rfl rfl rfl rfl (by kernel_rfl) (by decide) (by decide) ?_ ?_
              · intro K hK
                refine call_ 58 #[.slice A0 l0.length c0] (by rfl) rfl (by first | rfl | (go_simp; done) | (go_simp; rfl)) ?_
                refine (clone65_calls A0 c0 l0 _ (Kd.C_below HR0.out HSd.out.B) HLN.out.1).mono ?_
                rintro e W1 ⟨v81, rfl, ho, hb⟩
                have HS1 := Aside0.mk (HSd.out.below hb)
                have HB1 := Aside0.mk (HBd.out.below hb)
                have HV1 := Aside0.mk (show VC w W1 ga gb v81 l0 from ⟨Kd.R_lower ho HSd.out.B.size, fun e => by have := Kd.R_base ho ga e.symm; have := (Array.getElem?_eq_some_iff.1 HBd.out.A).1; omega, fun e => by have := Kd.R_base ho gb e.symm; have := (Array.getElem?_eq_some_iff.1 HBd.out.B).1; omega⟩)
                refine ⟨_, rfl, ?_⟩
                refine hK.out _ _ ((blk_cell HB1.out.A 0).trans rfl) (fun hHeld => ?_)
                clear ho hb HSd HBd
                clear hK K
                refine norm_ (a' := ?_) ?_ ?_
                rotate_left
                · first | (show Act.put _ (some 81) _ = _; simp only [Act.put, List.setIfInBounds_toArray, List.set_cons_zero, List.set_cons_succ, i64_w, i32_w]; rfl) | rfl
                refine two_ (i := 3) (j := 14) (Ni := some 83) (Nj := some 29) #[true, true, true, true, true, true, true, true, true, true, false, false, false, false, false, false, false] #[true, true, true, false, true, true, true, true, true, true, false, false, false, false, true, false, false] rfl rfl rfl rfl (by kernel_rfl) (by decide) (by decide) ?_ ?_
                · intro K hK
                  refine call_ 57 #[v81, .func (.func 55) #[] #[.pointer (some ⟨ga, 0, none⟩), .pointer (some ⟨gb, 0, none⟩)]] (by rfl) rfl (by first | rfl | (go_simp; done) | (go_simp; rfl)) ?_
                  refine (del_calls HB1.out HLN.out.2.2 v81 l0 HV1.out.R HLN.out.1 HV1.out.a HV1.out.b).mono ?_
                  rintro e W3 ⟨A83, c83, rfl, hl83, hc83, hbn, hg⟩
                  have HS2 := Aside0.mk (HS1.out.own HV1.out.R hg)
                  have HB2 := Aside0.mk hbn
                  have HC_2 := Aside0.mk hc83
                  have HL83 := Aside0.mk hl83
                  refine ⟨_, rfl, ?_⟩
                  refine hK.out _ _ ((blk_cell HB2.out.A 0).trans rfl) (fun hHeld => ?_)
                  clear hl83 hc83 hbn hg HS1 HB1 HV1
                  clear hK K
                  refine norm_ (a' := ?_) ?_ ?_
                  rotate_left
                  · first | (show Act.put _ (some 83) _ = _; simp only [Act.put, List.setIfInBounds_toArray, List.set_cons_zero, List.set_cons_succ, i64_w, i32_w]; rfl) | rfl
                  refine two_ (i := 10) (j := 14) (Ni := some 90) (Nj := some 29) #[true, true, true, true, true, true, true, true, true, true, true, false, false, false, false, false, false] #[true, true, true, true, true, true, true, true, true, true, false, false, false, false, true, false, false] rfl rfl rfl rfl (by kernel_rfl) (by decide) (by decide) ?_ ?_
                  · intro K hK
                    refine call_ 15 #[.slice A83 (delB at_ l2 l0).length c83, .int .i64 at_, .int .i64 a4, .int .i64 nw, .int .i64 a6, .int .i64 a7, .slice (some adn) nd.length cn] (by rfl) rfl (by first | rfl | (go_simp; done) | (go_simp; rfl)) ?_
                    refine (least_Route.calls A83 c83 (delB at_ l2 l0) at_ a4 nw a6 a7 (some adn) cn nd x1 x2 x3 _ HC_2.out HL83.out (Kd.R_reads' HS2.out.N).2.2 (Kd.R_reads' HS2.out.N).2.1 HLE.out).mono ?_
                    rintro e W10 ⟨v90, rfl, ho, hb⟩
                    obtain ⟨A90, c90, e90⟩ := Kd.R_slice ho
                    subst e90
                    have HS3 := Aside0.mk (HS2.out.below hb)
                    have HB3 := Aside0.mk (HB2.out.below hb)
                    have HR_3 := Aside0.mk (Kd.R_lower ho HS2.out.B.size)
                    refine ⟨_, rfl, ?_⟩
                    refine hK.out _ _ ((blk_cell HB3.out.A 0).trans rfl) (fun hHeld => ?_)
                    clear ho hb HS2 HB2 HC_2
                    clear hK K
                    refine norm_ (a' := ?_) ?_ ?_
                    rotate_left
                    · first | (show Act.put _ (some 90) _ = _; simp only [Act.put, List.setIfInBounds_toArray, List.set_cons_zero, List.set_cons_succ, i64_w, i32_w]; rfl) | rfl
                    refine pure_ (i := 11) (N := (some 79)) (v := ?_) (a' := ?_) #[true, true, true, true, true, true, true, true, true, true, true, true, false, false, false, false, false] rfl rfl (by kernel_rfl) (fun _ _ _ h => h) (Or.inl ⟨by rfl, ?_⟩) ?_ ?_
                    rotate_left
                    · intro w'
                      go_simp
                      with_reducible rfl
                    rotate_left
                    · simp only [Act.put, List.setIfInBounds_toArray, List.set_cons_zero, List.set_cons_succ, i64_w, i32_w]
                      rfl
                    refine pure_ (i := 12) (N := (some 91)) (v := ?_) (a' := ?_) #[true, true, true, true, true, true, true, true, true, true, true, true, true, false, false, false, false] rfl rfl (by kernel_rfl) (fun _ _ _ h => h) (Or.inl ⟨by rfl, ?_⟩) ?_ ?_
                    rotate_left
                    · intro w'
                      go_simp
                      with_reducible rfl
                    rotate_left
                    · simp only [Act.put, List.setIfInBounds_toArray, List.set_cons_zero, List.set_cons_succ, i64_w, i32_w]
                      rfl
                    refine pure_ (i := 13) (N := (some 92)) (v := ?_) (a' := ?_) #[true, true, true, true, true, true, true, true, true, true, true, true, true, true, false, false, false] rfl rfl (by kernel_rfl) (fun _ _ _ h => h) (Or.inl ⟨by rfl, ?_⟩) ?_ ?_
                    rotate_left
                    · intro w'
                      go_simp
                      with_reducible rfl
                    rotate_left
                    · simp only [Act.put, List.setIfInBounds_toArray, List.set_cons_zero, List.set_cons_succ, i64_w, i32_w]
                      rfl
                    refine one_ (i := 14) (N := (some 29)) #[true, true, true, true, true, true, true, true, true, true, true, true, true, true, true, false, false] rfl rfl (by kernel_rfl) (by decide) (fun K hK => ?_)
                    refine alloc_step (t := 27) (by rfl) rfl info27 ?_
                    intro g29 W14 hg29 hblk hb
                    have HS4 := Aside0.mk (HS3.out.below hb)
                    have HB4 := Aside0.mk (HB3.out.below hb)
                    have HR_4 := Aside0.mk (Kd.R_below HR_3.out hb)
                    have HG4 := Aside0.mk hblk
                    have HGE29 := Aside0.mk (show w.heap.size ≤ g29 ∧ g29 ≠ g from ⟨by rw [hg29]; exact HS3.out.B.size, fun e => by have := (Array.getElem?_eq_some_iff.1 HS3.out.K).1; omega⟩)
                    refine hK.out _ _ ((blk_cell HB4.out.A 0).trans rfl) (fun hHeld => ?_)
                    clear hg29 hblk hb HS3 HB3 HR_3
                    clear hK K
                    refine norm_ (a' := ?_) ?_ ?_
                    rotate_left
                    · first | (show Act.put _ (some 29) _ = _; simp only [Act.put, List.setIfInBounds_toArray, List.set_cons_zero, List.set_cons_succ, i64_w, i32_w]; rfl) | rfl
                    refine norm_ ?_ (hc ⟨v81, A83, c83, A90, c90, g29⟩ _ ⟨HS4.out, HR_4.out, HG4.out, HGE29.out⟩)
                    simp only [putAll, Act.put, List.setIfInBounds_toArray, List.set_cons_zero, List.set_cons_succ]
                  · intro K hK
                    refine alloc_step (t := 27) (by rfl) rfl info27 ?_
                    intro g29 W14 hg29 hblk hb
                    have HS5 := Aside0.mk (HS2.out.below hb)
                    have HB5 := Aside0.mk (HB2.out.below hb)
                    have HC_5 := Aside0.mk (Kd.C_below HC_2.out hb)
                    have HG5 := Aside0.mk hblk
                    have HGE29 := Aside0.mk (show w.heap.size ≤ g29 ∧ g29 ≠ g from ⟨by rw [hg29]; exact HS2.out.B.size, fun e => by have := (Array.getElem?_eq_some_iff.1 HS2.out.K).1; omega⟩)
                    refine hK.out _ _ ((blk_cell HB5.out.A 0).trans rfl) (fun hHeld => ?_)
                    clear hg29 hblk hb HS2 HB2 HC_2
                    clear hK K
                    refine norm_ (a' := ?_) ?_ ?_
                    rotate_left
                    · first | (show Act.put _ (some 29) _ = _; simp only [Act.put, List.setIfInBounds_toArray, List.set_cons_zero, List.set_cons_succ, i64_w, i32_w]; rfl) | rfl
                    refine one_ (i := 10) (N := (some 90)) #[true, true, true, true, true, true, true, true, true, true, true, false, false, false, true, false, false] rfl rfl (by kernel_rfl) (by decide) (fun K hK => ?_)
                    refine call_ 15 #[.slice A83 (delB at_ l2 l0).length c83, .int .i64 at_, .int .i64 a4, .int .i64 nw, .int .i64 a6, .int .i64 a7, .slice (some adn) nd.length cn] (by rfl) rfl (by first | rfl | (go_simp; done) | (go_simp; rfl)) ?_
                    refine (least_Route.calls A83 c83 (delB at_ l2 l0) at_ a4 nw a6 a7 (some adn) cn nd x1 x2 x3 _ HC_5.out HL83.out (Kd.R_reads' HS5.out.N).2.2 (Kd.R_reads' HS5.out.N).2.1 HLE.out).mono ?_
                    rintro e W10 ⟨v90, rfl, ho, hb⟩
                    obtain ⟨A90, c90, e90⟩ := Kd.R_slice ho
                    subst e90
                    have HS6 := Aside0.mk (HS5.out.below hb)
                    have HB6 := Aside0.mk (HB5.out.below hb)
                    have HG6 := Aside0.mk (blk_below HG5.out hb)
                    have HR_6 := Aside0.mk (Kd.R_lower ho HS5.out.B.size)
                    refine ⟨_, rfl, ?_⟩
                    refine hK.out _ _ ((blk_cell HB6.out.A 0).trans rfl) (fun hHeld => ?_)
                    clear ho hb HS5 HB5 HG5 HC_5
                    clear hK K
                    refine norm_ (a' := ?_) ?_ ?_
                    rotate_left
                    · first | (show Act.put _ (some 90) _ = _; simp only [Act.put, List.setIfInBounds_toArray, List.set_cons_zero, List.set_cons_succ, i64_w, i32_w]; rfl) | rfl
                    refine pure_ (i := 11) (N := (some 79)) (v := ?_) (a' := ?_) #[true, true, true, true, true, true, true, true, true, true, true, true, false, false, true, false, false] rfl rfl (by kernel_rfl) (fun _ _ _ h => h) (Or.inl ⟨by rfl, ?_⟩) ?_ ?_
                    rotate_left
                    · intro w'
                      go_simp
                      with_reducible rfl
                    rotate_left
                    · simp only [Act.put, List.setIfInBounds_toArray, List.set_cons_zero, List.set_cons_succ, i64_w, i32_w]
                      rfl
                    refine pure_ (i := 12) (N := (some 91)) (v := ?_) (a' := ?_) #[true, true, true, true, true, true, true, true, true, true, true, true, true, false, true, false, false] rfl rfl (by kernel_rfl) (fun _ _ _ h => h) (Or.inl ⟨by rfl, ?_⟩) ?_ ?_
                    rotate_left
                    · intro w'
                      go_simp
                      with_reducible rfl
                    rotate_left
                    · simp only [Act.put, List.setIfInBounds_toArray, List.set_cons_zero, List.set_cons_succ, i64_w, i32_w]
                      rfl
                    refine pure_ (i := 13) (N := (some 92)) (v := ?_) (a' := ?_) #[true, true, true, true, true, true, true, true, true, true, true, true, true, true, true, false, false] rfl rfl (by kernel_rfl) (fun _ _ _ h => h) (Or.inl ⟨by rfl, ?_⟩) ?_ ?_
                    rotate_left
                    · intro w'
                      go_simp
                      with_reducible rfl
                    rotate_left
                    · simp only [Act.put, List.setIfInBounds_toArray, List.set_cons_zero, List.set_cons_succ, i64_w, i32_w]
                      rfl
                    refine norm_ ?_ (hc ⟨v81, A83, c83, A90, c90, g29⟩ _ ⟨HS6.out, HR_6.out, HG6.out, HGE29.out⟩)
                    simp only [putAll, Act.put, List.setIfInBounds_toArray, List.set_cons_zero, List.set_cons_succ]
                · intro K hK
                  refine alloc_step (t := 27) (by rfl) rfl info27 ?_
                  intro g29 W14 hg29 hblk hb
                  have HS7 := Aside0.mk (HS1.out.below hb)
                  have HB7 := Aside0.mk (HB1.out.below hb)
                  have HV7 := Aside0.mk (HV1.out.below hb)
                  have HG7 := Aside0.mk hblk
                  have HGE29 := Aside0.mk (show w.heap.size ≤ g29 ∧ g29 ≠ g from ⟨by rw [hg29]; exact HS1.out.B.size, fun e => by have := (Array.getElem?_eq_some_iff.1 HS1.out.K).1; omega⟩)
                  refine hK.out _ _ ((blk_cell HB7.out.A 0).trans rfl) (fun hHeld => ?_)
                  clear hg29 hblk hb HS1 HB1 HV1
                  clear hK K
                  refine norm_ (a' := ?_) ?_ ?_
                  rotate_left
                  · first | (show Act.put _ (some 29) _ = _; simp only [Act.put, List.setIfInBounds_toArray, List.set_cons_zero, List.set_cons_succ, i64_w, i32_w]; rfl) | rfl
                  refine one_ (i := 3) (N := (some 83)) #[true, true, true, true, true, true, true, true, true, true, false, false, false, false, true, false, false] rfl rfl (by kernel_rfl) (by decide) (fun K hK => ?_)
                  refine call_ 57 #[v81, .func (.func 55) #[] #[.pointer (some ⟨ga, 0, none⟩), .pointer (some ⟨gb, 0, none⟩)]] (by rfl) rfl (by first | rfl | (go_simp; done) | (go_simp; rfl)) ?_
                  refine (del_calls HB7.out HLN.out.2.2 v81 l0 HV7.out.R HLN.out.1 HV7.out.a HV7.out.b).mono ?_
                  rintro e W3 ⟨A83, c83, rfl, hl83, hc83, hbn, hg⟩
                  have HS8 := Aside0.mk (HS7.out.own HV7.out.R hg)
                  have HB8 := Aside0.mk hbn
                  have HG8 := Aside0.mk (blk_grown HG7.out hg (Kd.R_ne HV7.out.R HG7.out (by decide)))
                  have HC_8 := Aside0.mk hc83
                  have HL83 := Aside0.mk hl83
                  refine ⟨_, rfl, ?_⟩
                  refine hK.out _ _ ((blk_cell HB8.out.A 0).trans rfl) (fun hHeld => ?_)
                  clear hl83 hc83 hbn hg HS7 HB7 HV7 HG7
                  clear hK K
                  refine norm_ (a' := ?_) ?_ ?_
                  rotate_left
                  · first | (show Act.put _ (some 83) _ = _; simp only [Act.put, List.setIfInBounds_toArray, List.set_cons_zero, List.set_cons_succ, i64_w, i32_w]; rfl) | rfl
                  refine one_ (i := 10) (N := (some 90)) #[true, true, true, true, true, true, true, true, true, true, true, false, false, false, true, false, false] rfl rfl (by kernel_rfl) (by decide) (fun K hK => ?_)
                  refine call_ 15 #[.slice A83 (delB at_ l2 l0).length c83, .int .i64 at_, .int .i64 a4, .int .i64 nw, .int .i64 a6, .int .i64 a7, .slice (some adn) nd.length cn] (by rfl) rfl (by first | rfl | (go_simp; done) | (go_simp; rfl)) ?_
                  refine (least_Route.calls A83 c83 (delB at_ l2 l0) at_ a4 nw a6 a7 (some adn) cn nd x1 x2 x3 _ HC_8.out HL83.out (Kd.R_reads' HS8.out.N).2.2 (Kd.R_reads' HS8.out.N).2.1 HLE.out).mono ?_
                  rintro e W10 ⟨v90, rfl, ho, hb⟩
                  obtain ⟨A90, c90, e90⟩ := Kd.R_slice ho
                  subst e90
                  have HS9 := Aside0.mk (HS8.out.below hb)
                  have HB9 := Aside0.mk (HB8.out.below hb)
                  have HG9 := Aside0.mk (blk_below HG8.out hb)
                  have HR_9 := Aside0.mk (Kd.R_lower ho HS8.out.B.size)
                  refine ⟨_, rfl, ?_⟩
                  refine hK.out _ _ ((blk_cell HB9.out.A 0).trans rfl) (fun hHeld => ?_)
                  clear ho hb HS8 HB8 HG8 HC_8
                  clear hK K
                  refine norm_ (a' := ?_) ?_ ?_
                  rotate_left
                  · first | (show Act.put _ (some 90) _ = _; simp only [Act.put, List.setIfInBounds_toArray, List.set_cons_zero, List.set_cons_succ, i64_w, i32_w]; rfl) | rfl
                  refine pure_ (i := 11) (N := (some 79)) (v := ?_) (a' := ?_) #[true, true, true, true, true, true, true, true, true, true, true, true, false, false, true, false, false] rfl rfl (by kernel_rfl) (fun _ _ _ h => h) (Or.inl ⟨by rfl, ?_⟩) ?_ ?_
                  rotate_left
                  · intro w'
                    go_simp
                    with_reducible rfl
                  rotate_left
                  · simp only [Act.put, List.setIfInBounds_toArray, List.set_cons_zero, List.set_cons_succ, i64_w, i32_w]
                    rfl
                  refine pure_ (i := 12) (N := (some 91)) (v := ?_) (a' := ?_) #[true, true, true, true, true, true, true, true, true, true, true, true, true, false, true, false, false] rfl rfl (by kernel_rfl) (fun _ _ _ h => h) (Or.inl ⟨by rfl, ?_⟩) ?_ ?_
                  rotate_left
                  · intro w'
                    go_simp
                    with_reducible rfl
                  rotate_left
                  · simp only [Act.put, List.setIfInBounds_toArray, List.set_cons_zero, List.set_cons_succ, i64_w, i32_w]
                    rfl
                  refine pure_ (i := 13) (N := (some 92)) (v := ?_) (a' := ?_) #[true, true, true, true, true, true, true, true, true, true, true, true, true, true, true, false, false] rfl rfl (by kernel_rfl) (fun _ _ _ h => h) (Or.inl ⟨by rfl, ?_⟩) ?_ ?_
                  rotate_left
                  · intro w'
                    go_simp
                    with_reducible rfl
                  rotate_left
                  · simp only [Act.put, List.setIfInBounds_toArray, List.set_cons_zero, List.set_cons_succ, i64_w, i32_w]
                    rfl
                  refine norm_ ?_ (hc ⟨v81, A83, c83, A90, c90, g29⟩ _ ⟨HS9.out, HR_9.out, HG9.out, HGE29.out⟩)
                  simp only [putAll, Act.put, List.setIfInBounds_toArray, List.set_cons_zero, List.set_cons_succ]
              · intro K hK
                refine alloc_step (t := 27) (by rfl) rfl info27 ?_
                intro g29 W14 hg29 hblk hb
                have HS10 := Aside0.mk (HSd.out.below hb)
                have HB10 := Aside0.mk (HBd.out.below hb)
                have HG10 := Aside0.mk hblk
                have HGE29 := Aside0.mk (show w.heap.size ≤ g29 ∧ g29 ≠ g from ⟨by rw [hg29]; exact HSd.out.B.size, fun e => by have := (Array.getElem?_eq_some_iff.1 HSd.out.K).1; omega⟩)
                refine hK.out _ _ ((blk_cell HB10.out.A 0).trans rfl) (fun hHeld => ?_)
                clear hg29 hblk hb HSd HBd
                clear hK K
                refine norm_ (a' := ?_) ?_ ?_
                rotate_left
                · first | (show Act.put _ (some 29) _ = _; simp only [Act.put, List.setIfInBounds_toArray, List.set_cons_zero, List.set_cons_succ, i64_w, i32_w]; rfl) | rfl
                refine one_ (i := 1) (N := (some 81)) #[true, true, true, false, true, true, true, true, true, true, false, false, false, false, true, false, false] rfl rfl (by kernel_rfl) (by decide) (fun K hK => ?_)
                refine call_ 58 #[.slice A0 l0.length c0] (by rfl) rfl (by first | rfl | (go_simp; done) | (go_simp; rfl)) ?_
                refine (clone65_calls A0 c0 l0 _ (Kd.C_below HR0.out HS10.out.B) HLN.out.1).mono ?_
                rintro e W1 ⟨v81, rfl, ho, hb⟩
                have HS11 := Aside0.mk (HS10.out.below hb)
                have HB11 := Aside0.mk (HB10.out.below hb)
                have HG11 := Aside0.mk (blk_below HG10.out hb)
                have HV11 := Aside0.mk (show VC w W1 ga gb v81 l0 from ⟨Kd.R_lower ho HS10.out.B.size, fun e => by have := Kd.R_base ho ga e.symm; have := (Array.getElem?_eq_some_iff.1 HB10.out.A).1; omega, fun e => by have := Kd.R_base ho gb e.symm; have := (Array.getElem?_eq_some_iff.1 HB10.out.B).1; omega⟩)
                refine ⟨_, rfl, ?_⟩
                refine hK.out _ _ ((blk_cell HB11.out.A 0).trans rfl) (fun hHeld => ?_)
                clear ho hb HS10 HB10 HG10
                clear hK K
                refine norm_ (a' := ?_) ?_ ?_
                rotate_left
                · first | (show Act.put _ (some 81) _ = _; simp only [Act.put, List.setIfInBounds_toArray, List.set_cons_zero, List.set_cons_succ, i64_w, i32_w]; rfl) | rfl
                refine one_ (i := 3) (N := (some 83)) #[true, true, true, true, true, true, true, true, true, true, false, false, false, false, true, false, false] rfl rfl (by kernel_rfl) (by decide) (fun K hK => ?_)
                refine call_ 57 #[v81, .func (.func 55) #[] #[.pointer (some ⟨ga, 0, none⟩), .pointer (some ⟨gb, 0, none⟩)]] (by rfl) rfl (by first | rfl | (go_simp; done) | (go_simp; rfl)) ?_
                refine (del_calls HB11.out HLN.out.2.2 v81 l0 HV11.out.R HLN.out.1 HV11.out.a HV11.out.b).mono ?_
                rintro e W3 ⟨A83, c83, rfl, hl83, hc83, hbn, hg⟩
                have HS12 := Aside0.mk (HS11.out.own HV11.out.R hg)
                have HB12 := Aside0.mk hbn
                have HG12 := Aside0.mk (blk_grown HG11.out hg (Kd.R_ne HV11.out.R HG11.out (by decide)))
                have HC_12 := Aside0.mk hc83
                have HL83 := Aside0.mk hl83
                refine ⟨_, rfl, ?_⟩
                refine hK.out _ _ ((blk_cell HB12.out.A 0).trans rfl) (fun hHeld => ?_)
                clear hl83 hc83 hbn hg HS11 HB11 HV11 HG11
                clear hK K
                refine norm_ (a' := ?_) ?_ ?_
                rotate_left
                · first | (show Act.put _ (some 83) _ = _; simp only [Act.put, List.setIfInBounds_toArray, List.set_cons_zero, List.set_cons_succ, i64_w, i32_w]; rfl) | rfl
                refine one_ (i := 10) (N := (some 90)) #[true, true, true, true, true, true, true, true, true, true, true, false, false, false, true, false, false] rfl rfl (by kernel_rfl) (by decide) (fun K hK => ?_)
                refine call_ 15 #[.slice A83 (delB at_ l2 l0).length c83, .int .i64 at_, .int .i64 a4, .int .i64 nw, .int .i64 a6, .int .i64 a7, .slice (some adn) nd.length cn] (by rfl) rfl (by first | rfl | (go_simp; done) | (go_simp; rfl)) ?_
                refine (least_Route.calls A83 c83 (delB at_ l2 l0) at_ a4 nw a6 a7 (some adn) cn nd x1 x2 x3 _ HC_12.out HL83.out (Kd.R_reads' HS12.out.N).2.2 (Kd.R_reads' HS12.out.N).2.1 HLE.out).mono ?_
                rintro e W10 ⟨v90, rfl, ho, hb⟩
                obtain ⟨A90, c90, e90⟩ := Kd.R_slice ho
                subst e90
                have HS13 := Aside0.mk (HS12.out.below hb)
                have HB13 := Aside0.mk (HB12.out.below hb)
                have HG13 := Aside0.mk (blk_below HG12.out hb)
                have HR_13 := Aside0.mk (Kd.R_lower ho HS12.out.B.size)
                refine ⟨_, rfl, ?_⟩
                refine hK.out _ _ ((blk_cell HB13.out.A 0).trans rfl) (fun hHeld => ?_)
                clear ho hb HS12 HB12 HG12 HC_12
                clear hK K
                refine norm_ (a' := ?_) ?_ ?_
                rotate_left
                · first | (show Act.put _ (some 90) _ = _; simp only [Act.put, List.setIfInBounds_toArray, List.set_cons_zero, List.set_cons_succ, i64_w, i32_w]; rfl) | rfl
                refine pure_ (i := 11) (N := (some 79)) (v := ?_) (a' := ?_) #[true, true, true, true, true, true, true, true, true, true, true, true, false, false, true, false, false] rfl rfl (by kernel_rfl) (fun _ _ _ h => h) (Or.inl ⟨by rfl, ?_⟩) ?_ ?_
                rotate_left
                · intro w'
                  go_simp
                  with_reducible rfl
                rotate_left
                · simp only [Act.put, List.setIfInBounds_toArray, List.set_cons_zero, List.set_cons_succ, i64_w, i32_w]
                  rfl
                refine pure_ (i := 12) (N := (some 91)) (v := ?_) (a' := ?_) #[true, true, true, true, true, true, true, true, true, true, true, true, true, false, true, false, false] rfl rfl (by kernel_rfl) (fun _ _ _ h => h) (Or.inl ⟨by rfl, ?_⟩) ?_ ?_
                rotate_left
                · intro w'
                  go_simp
                  with_reducible rfl
                rotate_left
                · simp only [Act.put, List.setIfInBounds_toArray, List.set_cons_zero, List.set_cons_succ, i64_w, i32_w]
                  rfl
                refine pure_ (i := 13) (N := (some 92)) (v := ?_) (a' := ?_) #[true, true, true, true, true, true, true, true, true, true, true, true, true, true, true, false, false] rfl rfl (by kernel_rfl) (fun _ _ _ h => h) (Or.inl ⟨by rfl, ?_⟩) ?_ ?_
                rotate_left
                · intro w'
                  go_simp
                  with_reducible rfl
                rotate_left
                · simp only [Act.put, List.setIfInBounds_toArray, List.set_cons_zero, List.set_cons_succ, i64_w, i32_w]
                  rfl
                refine norm_ ?_ (hc ⟨v81, A83, c83, A90, c90, g29⟩ _ ⟨HS13.out, HR_13.out, HG13.out, HGE29.out⟩)
                simp only [putAll, Act.put, List.setIfInBounds_toArray, List.set_cons_zero, List.set_cons_succ]
            rintro ⟨v81, A83, c83, A90, c90, g29⟩ wJ ⟨hsJ, hrJ, hgJ, hneJ⟩
            have HSJ := Aside0.mk hsJ
            have HRJ := Aside0.mk hrJ
            have HGJ := Aside0.mk hgJ
            have HNJ := Aside0.mk hneJ
            clear hsJ hrJ hgJ hneJ HSd HBd hHeld
            refine norm_ (a' := ?_) ?_ ?_
            rotate_left
            · show putAll _ [(81, _), (83, _), (90, _), (79, _), (91, _), (92, _), (29, _)] = _
              simp only [putAll, Act.put, List.setIfInBounds_toArray, List.set_cons_zero, List.set_cons_succ]
              rfl
            refine last_ (i := 15) (N := none) #[true, true, true, true, true, true, true, true, true, true, true, true, true, true, true, true, false] rfl rfl (by kernel_rfl) (by decide) (fun K hK => ?_)
            refine store_step (by rfl) rfl rfl g29 0 _ #[.slice A90 x1.length c90, .int .i64 x2] #[.slice A90 x1.length c90, .int .i64 x2] HGJ.out (by rfl) (by rfl) info27 rfl (by simp) (by simp [Value.oneCell']) (by simp) ?_
            intro w15 hblk15 hg15 hs15
            have HR15 := Aside0.mk (R_store HRJ.out HGJ.out (by decide) hg15)
            have HS15 := Aside0.mk (HSJ.out.put29 HGJ.out hg15 HNJ.out.2 HNJ.out.1)
            have HG15 := Aside0.mk hblk15
            clear hblk15 hg15 hs15
            refine hK.out _ _ ?_
            clear hK K
            refine norm_ (a' := ?_) ?_ ?_
            rotate_left
            · first | (show Act.put _ none _ = _; simp only [Act.put, List.setIfInBounds_toArray, List.set_cons_zero, List.set_cons_succ, i64_w, i32_w]; rfl) | rfl
            refine pure_ (i := 16) (N := (some 19)) (v := ?_) (a' := ?_) #[true, true, true, true, true, true, true, true, true, true, true, true, true, true, true, true, true] rfl rfl (by kernel_rfl) (fun _ _ _ h => h) (Or.inl ⟨by rfl, ?_⟩) ?_ ?_
            rotate_left
            · intro w'
              go_simp
              with_reducible rfl
            rotate_left
            · simp only [Act.put, List.setIfInBounds_toArray, List.set_cons_zero, List.set_cons_succ, i64_w, i32_w]
              rfl
            refine done_ (by kernel_rfl) ?_
            cases x3 with
            | false =>
              have hxx := HXX.out
              simp only [Bool.false_eq_true, if_false, Prod.mk.injEq] at hxx
              obtain ⟨rfl, rfl, rfl⟩ := hxx
              clear HXX
              go_wp2_with (first
                | ((with_reducible refine gate_store (t := 27) (p := 16) rfl ?_); go_loud (refine store_part 16 rfl rfl rfl rfl g 0 _ #[.slice none 0 0, .int .i64 0] #[.slice none 0 0, .int .i64 0] HS15.out.K rfl rfl info27 rfl (by simp) (by simp [Value.oneCell']) (by simp) ?_); intro w9 hblk9 hg9 hs9; have HBz := Aside0.mk (below_grown_one HS15.out.B hg9 HS15.out.GE); have HKz := Aside0.mk hblk9; clear hblk9 hg9 hs9))
              refine bodyPost_ret (results_ct rfl _ _ g 27 #[.slice none 0 0, .int .i64 0] (0, 0) _ rfl HKz.out Try.underlying27 rfl (by kernel_rfl)) rfl ?_
              exact ⟨_, rfl, Kd.R_nil _ _ _ _ _, HBz.out⟩
            | true =>
              have hxx := HXX.out
              simp only [if_true, Prod.mk.injEq] at hxx
              obtain ⟨rfl, rfl, rfl⟩ := hxx
              clear HXX
              go_wp2
              have HLX := Aside0.mk (show (hops.length + x1.length) * 24 ≤ 140737488355328 by have := HY1.out; simp at this; omega)
              refine start_ (n := 9) (S := fun w' => w'.cell? ⟨g29, 0, none⟩ = some (.slice A90 x1.length c90) ∧ w'.cell? ⟨g29, 1, none⟩ = some (.int .i64 x2)) (ds := [7, 8]) #[false, false, false, false, false, false, false, false, false] (by kernel_rfl) rfl rfl ⟨(blk_cell HG15.out 0).trans rfl, (blk_cell HG15.out 1).trans rfl⟩ (fun hHeld => ?_)
              refine pure_ (i := 0) (N := (some 96)) (v := ?_) (a' := ?_) #[true, false, false, false, false, false, false, false, false] rfl rfl (by kernel_rfl) (fun _ _ _ h => h) (Or.inl ⟨by rfl, ?_⟩) ?_ ?_
              rotate_left
              · intro w'
                go_simp
                with_reducible rfl
              rotate_left
              · simp only [Act.put, List.setIfInBounds_toArray, List.set_cons_zero, List.set_cons_succ, i64_w, i32_w]
                rfl
              refine pure_ (i := 1) (N := (some 97)) (v := ?_) (a' := ?_) #[true, true, false, false, false, false, false, false, false] rfl rfl (by kernel_rfl) (fun _ _ _ h => h) (Or.inl ⟨by rfl, ?_⟩) ?_ ?_
              rotate_left
              · intro w'
                go_simp
                with_reducible rfl
              rotate_left
              · simp only [Act.put, List.setIfInBounds_toArray, List.set_cons_zero, List.set_cons_succ, i64_w, i32_w]
                rfl
              refine take_ (i := 2) (N := (some 98)) (v := ?_) (a' := ?_) #[true, true, true, false, false, false, false, false, false] rfl rfl (by kernel_rfl) (fun _ _ _ h => h) (Or.inl ⟨by rfl, ?_⟩) hHeld ?_ ?_
              rotate_left
              · rintro w' ⟨s0, s1⟩
                go_simp
                with_reducible rfl
              rotate_left
              · simp only [Act.put, List.setIfInBounds_toArray, List.set_cons_zero, List.set_cons_succ, i64_w, i32_w]
                rfl
              refine pure_ (i := 4) (N := (some 100)) (v := ?_) (a' := ?_) #[true, true, true, false, true, false, false, false, false] rfl rfl (by kernel_rfl) (fun _ _ _ h => h) (Or.inl ⟨by rfl, ?_⟩) ?_ ?_
              rotate_left
              · intro w'
                go_simp
                with_reducible rfl
              rotate_left
              · simp only [Act.put, List.setIfInBounds_toArray, List.set_cons_zero, List.set_cons_succ, i64_w, i32_w]
                rfl
              refine take_ (i := 5) (N := (some 101)) (v := ?_) (a' := ?_) #[true, true, true, false, true, true, false, false, false] rfl rfl (by kernel_rfl) (fun _ _ _ h => h) (Or.inl ⟨by rfl, ?_⟩) hHeld ?_ ?_
              rotate_left
              · rintro w' ⟨s0, s1⟩
                go_simp
                with_reducible rfl
              rotate_left
              · simp only [Act.put, List.setIfInBounds_toArray, List.set_cons_zero, List.set_cons_succ, i64_w, i32_w]
                rfl
              refine one_ (i := 3) (N := (some 99)) #[true, true, true, true, true, true, false, false, false] rfl rfl (by kernel_rfl) (by decide) (fun K hK => ?_)
              refine Kd.R_append_rows_step k56 (w0 := w) (Rr := k56.K _) w.heap.size (by rfl) (.tmp 96) (.tmp 98) 25 56 (.agg #[.int .i64 0, .int .i64 0, .int .i64 0]) 24 rfl Try.underlying25 info56 rfl (by decide) (by decide) (.slice Ah hops.length ch) hops x1 A90 x1.length c90 (fun _ => True) (fun _ => False) rfl rfl (Kd.R_drew HS15.out.H) (Kd.R_reads' (Kd.R_drew HR15.out)).2.2 (fun x cs h => k56_KM x cs h) (fun _ h => h.elim) (fun _ _ => trivial) (below_drew1 HS15.out.B) (below_size (below_drew1 HS15.out.B)) HLX.out ?_
              intro v99 w99 ho hb hg hat
              obtain ⟨A99, c99, e99⟩ := Kd.R_slice ho
              subst e99
              have HK9 := Aside0.mk (blk_grown (blk_drew HS15.out.K) hg (Kd.R_ne HS15.out.H HS15.out.K (by decide)))
              have HG9 := Aside0.mk (blk_grown (blk_drew HG15.out) hg (Kd.R_ne HS15.out.H HG15.out (by decide)))
              have HO9 := Aside0.mk ho
              have HB9 := Aside0.mk hb
              refine hK.out _ _ ⟨(blk_cell HG9.out 0).trans rfl, (blk_cell HG9.out 1).trans rfl⟩ (fun hHeld => ?_)
              clear ho hb hg hat
              clear hK K
              refine norm_ (a' := ?_) ?_ ?_
              rotate_left
              · first | (show Act.put _ (some 99) _ = _; simp only [Act.put, List.setIfInBounds_toArray, List.set_cons_zero, List.set_cons_succ, i64_w, i32_w]; rfl) | rfl
              refine pure_ (i := 6) (N := (some 102)) (v := ?_) (a' := ?_) #[true, true, true, true, true, true, true, false, false] rfl rfl (by kernel_rfl) (fun _ _ _ h => h) (Or.inl ⟨by rfl, ?_⟩) ?_ ?_
              rotate_left
              · intro w'
                go_simp
                with_reducible rfl
              rotate_left
              · simp only [Act.put, List.setIfInBounds_toArray, List.set_cons_zero, List.set_cons_succ, i64_w, i32_w]
                rfl
              refine last_ (i := 7) (N := none) #[true, true, true, true, true, true, true, true, false] rfl rfl (by kernel_rfl) (by decide) (fun K hK => ?_)
              refine store_step (by rfl) rfl rfl g 0 _ #[.slice A99 (hops ++ x1).length c99, .int .i64 x2] #[.slice A99 (hops ++ x1).length c99, .int .i64 x2] HK9.out (by rfl) (by first | rfl | (go_simp; done) | (go_simp; rfl)) info27 rfl (by simp) (by simp [Value.oneCell']) (by simp) ?_
              intro wz hblkz hgz hsz
              have HOz := Aside0.mk (R_store HO9.out HK9.out (by decide) hgz)
              have HBz := Aside0.mk (below_grown_one HB9.out hgz HS15.out.GE)
              have HKz := Aside0.mk hblkz
              clear hblkz hgz hsz
              refine hK.out _ _ ?_
              clear hK K
              refine norm_ (a' := ?_) ?_ ?_
              rotate_left
              · first | (show Act.put _ none _ = _; simp only [Act.put, List.setIfInBounds_toArray, List.set_cons_zero, List.set_cons_succ, i64_w, i32_w]; rfl) | rfl
              refine pure_ (i := 8) (N := (some 17)) (v := ?_) (a' := ?_) #[true, true, true, true, true, true, true, true, true] rfl rfl (by kernel_rfl) (fun _ _ _ h => h) (Or.inl ⟨by rfl, ?_⟩) ?_ ?_
              rotate_left
              · intro w'
                go_simp
                with_reducible rfl
              rotate_left
              · simp only [Act.put, List.setIfInBounds_toArray, List.set_cons_zero, List.set_cons_succ, i64_w, i32_w]
                rfl
              refine done_ (by kernel_rfl) ?_
              go_wp2
              refine bodyPost_ret (results_ct rfl _ _ g 27 #[.slice A99 (hops ++ x1).length c99, .int .i64 x2] (0, 0) _ rfl HKz.out Try.underlying27 rfl (by kernel_rfl)) rfl ?_
              exact ⟨_, rfl, HOz.out, HBz.out⟩
end Go.Proofs.Ytijflnpgiegajaa.Q
end
section
namespace Go.Proofs.Ytijflnpgiegajaa.Q
open Go.RowKit Go.Proofs.YtijflnpgiegajaaW.PrintWords Go.Proofs.YtijflnpgiegajaaW.PrintLast Go.Proofs.YtijflnpgiegajaaW.PrintMore Go.Proofs.Ytijflnpgiegajaa.IM
set_option linter.unusedVariables false
set_option linter.unusedSimpArgs false
theorem rightL_all : ∀ {l : List S65}, RightL l → ∀ e ∈ l, RightE e
  | [], _, e, he => by simp at he
  | [x], h, e, he => by simp at he; subst he; exact h
  | x :: y :: r, h, e, he => by
    rcases List.mem_cons.1 he with rfl | he
    · exact h.1
    · exact rightL_all h.2.2 e he
theorem rightL_of : ∀ {l : List S65}, (∀ e ∈ l, RightE e) → l.Pairwise (fun a b => a.f0 < b.f0) → RightL l
  | [], _, _ => trivial
  | [x], h, _ => h x (by simp)
  | x :: y :: r, h, hp => by
    rw [List.pairwise_cons] at hp
    exact ⟨h x (by simp), hp.1 y (by simp), rightL_of (fun e he => h e (by simp [he])) hp.2⟩
theorem rightL_del {l : List S65} (h : RightL l) (b : Int) (bans : List Int) : RightL (delB b bans l) :=
  rightL_of (fun e he => rightL_all h e (List.mem_filter.1 he).1) ((rightL_pair h).filter _)
theorem mem_delB {l : List S65} {b : Int} {bans : List Int} {e : S65} : e ∈ delB b bans l ↔ e ∈ l ∧ ¬ (e.f1 = b ∧ e.f0 ∈ bans) := by
  unfold delB banB
  rw [List.mem_filter]
  by_cases h1 : e.f1 = b <;> by_cases h2 : e.f0 ∈ bans <;> simp [h1, h2]
theorem way_node {l : List S65} {size : Int} {sh : List Int} : ∀ (es : List S65) (a t b : Int), NodeP a → Way l size sh es a t b → NodeP b
  | [], a, t, b, hn, h => by cases h; exact hn
  | e :: r, a, t, b, hn, h => way_node r e.f2 _ b h.2.2.2.1.2.2.1.2.1 h.2.2.2.2
theorem way_lastN {l : List S65} {size : Int} {sh : List Int} {es : List S65} {a t b : Int} (h : Way l size sh es a t b) : lastN (a :: es.map (·.f2)) = b := by
  have h1 := way_last es a t b h
  rw [getLast_rd] at h1
  unfold lastN
  rw [show (((a :: es.map (·.f2)).length : Int) - 1) = ((es.map (·.f2)).length : Int) from by simp]
  exact h1
theorem lexLe_prefix : ∀ (p x y : List Int), lexLe x y → lexLe (p ++ x) (p ++ y)
  | [], x, y, h => h
  | a :: p, x, y, h => .inr ⟨rfl, lexLe_prefix p x y h⟩
theorem keyLe_prefix {size now : Int} (rs : List S65) {ss ss' : List S65} (h : keyLe size (endT size rs now) ss ss') : keyLe size now (rs ++ ss) (rs ++ ss') := by
  unfold keyLe at *
  simp only [endT_append, List.length_append, List.map_append]
  rcases h with h | ⟨h1, h | ⟨h2, h3⟩⟩
  · exact .inl h
  · exact .inr ⟨h1, .inl (by omega)⟩
  · exact .inr ⟨h1, .inr ⟨by omega, lexLe_prefix _ _ _ h3⟩⟩
theorem route_shut5 {l : List S65} {frm dst now size by_ : Int} {sh : List Int} {es : List S65} (h : RouteE l size sh frm now dst by_ es) : ∀ x ∈ es.map (·.f2), x ∉ sh := fun x hx => by
  obtain ⟨e, he, rfl⟩ := List.mem_map.1 hx
  exact (way_all es _ _ _ h.way e he).2.1
def SpurOk (l : List S65) (root bans : List Int) (frm now dst size by_ : Int) (es : List S65) : Prop :=
  RouteE l size [] frm now dst by_ es ∧ ∃ rs ss, es = rs ++ ss ∧ rs.map (·.f0) = root ∧ ∀ e r, ss = e :: r → e.f0 ∉ bans
theorem spur_spec {l : List S65} {root bans : List Int} {frm dst now size by_ : Int} (hl : l.length ≤ 900) (hr : root.length ≤ 10000) (hb : bans.length ≤ 10000) :
    (spur_Route.f l root bans frm dst now size by_ = some ([], 0, false) ∧ ∀ es, ¬ SpurOk l root bans frm now dst size by_ es) ∨
    ∃ es, SpurOk l root bans frm now dst size by_ es ∧ spur_Route.f l root bans frm dst now size by_ = some (hopsT size es now, endT size es now, true) ∧ ∀ es', SpurOk l root bans frm now dst size by_ es' → keyLe size now es es' := by
  unfold spur_Route.f
  rw [if_pos ⟨by omega, by omega, by omega⟩]
  cases hw : walkP l root frm now size with
  | none =>
    refine .inl ⟨rfl, ?_⟩
    rintro es ⟨hR, rs, ss, rfl, hids, _⟩
    obtain ⟨m, h1, _⟩ := (way_append _ _ _ _ _).1 hR.way
    have := walkP_yes hR.asked h1
    rw [hids, hw] at this
    exact absurd this (by simp)
  | some h =>
    obtain ⟨hA, rs0, b, hids, hway, rfl⟩ := walkP_some hw
    have hends := endsP_yes hA.1 hA.2.2.2 (way_chain rs0 _ _ _ hway)
    rw [hids] at hends
    rw [hends]
    simp only
    have hrl : rs0.length ≤ 10000 := by have := congrArg List.length hids; simp at this; omega
    rw [if_pos ⟨by rw [hopsT_len]; omega, by simp; omega⟩]
    unfold spurGo
    have hlast := way_lastN hway
    have hone : ∀ rs, rs.map (·.f0) = root → (∀ e ∈ rs, e ∈ l) → rs = rs0 := fun rs h1 h2 => ids_one (rightL_pair hA.2.2.2) rs rs0 h2 (fun e he => (way_all rs0 _ _ _ hway e he).1) (h1.trans hids.symm)
    by_cases hnd : (frm :: rs0.map (·.f2)).Nodup
    · rw [if_pos hnd, hlast, hopsT_arrive]
      have hT := endT_ge rs0 _ _ _ hway
      have hNb := way_node rs0 _ _ _ hA.1 hway
      have hA' : Asked (delB b bans l) b (endT size rs0 now) size := ⟨hNb, hT.2 hA.2.1, hA.2.2.1, rightL_del hA.2.2.2 b bans⟩
      have hbmem : b ∈ frm :: rs0.map (·.f2) := List.mem_of_getLast? (way_last rs0 _ _ _ hway)
      
      have toR : ∀ ss, RouteE (delB b bans l) size (frm :: rs0.map (·.f2)) b (endT size rs0 now) dst by_ ss → SpurOk l root bans frm now dst size by_ (rs0 ++ ss) := by
        intro ss hR
        have hsub : Way l size [] ss b (endT size rs0 now) dst := way_sub ss _ _ _ (fun e _ he _ => ⟨(mem_delB.1 he).1, by simp⟩) hR.way
        refine ⟨⟨hA, hR.node, (way_append _ _ _ _ _).2 ⟨b, hway, hsub⟩, ?_, by rw [endT_append]; exact hR.time⟩, rs0, ss, rfl, hids, ?_⟩
        · rw [List.map_append, ← List.cons_append, List.nodup_append]
          refine ⟨hnd, (List.nodup_cons.1 hR.nodup).2, fun x hx y hy e => ?_⟩
          subst e
          exact route_shut5 hR x hy hx
        · rintro e r rfl hin
          obtain ⟨g1, g2, _⟩ := hR.way
          exact (mem_delB.1 g1).2 ⟨g2, hin⟩
      have ofR : ∀ es, SpurOk l root bans frm now dst size by_ es → ∃ ss, es = rs0 ++ ss ∧ RouteE (delB b bans l) size (frm :: rs0.map (·.f2)) b (endT size rs0 now) dst by_ ss := by
        rintro es ⟨hR, rs, ss, rfl, hid, hban⟩
        have hall := way_all (rs ++ ss) _ _ _ hR.way
        obtain rfl := hone rs hid (fun e he => (hall e (by simp [he])).1)
        refine ⟨ss, rfl, hA', hR.node, ?_, ?_, by have := hR.time; rwa [endT_append] at this⟩
        · obtain ⟨m, h1, h2⟩ := (way_append _ _ _ _ _).1 hR.way
          have hm : m = b := (way_lastN h1).symm.trans hlast
          subst hm
          have hn := hR.nodup
          rw [List.map_append, ← List.cons_append, List.nodup_append] at hn
          refine way_sub ss _ _ _ (fun e he hel _ => ⟨mem_delB.2 ⟨hel, ?_⟩, fun q => hn.2.2 _ q _ (List.mem_map.2 ⟨e, he, rfl⟩) rfl⟩) h2
          rintro ⟨g1, g2⟩
          cases ss with
          | nil => simp at he
          | cons e0 r =>
            rcases List.mem_cons.1 he with rfl | he'
            · exact hban e r rfl g2
            · 
              have hst := way_starts r _ _ _ h2.2.2.2.2
              have hmem : e.f1 ∈ (e0.f2 :: r.map (·.f2)).dropLast := by rw [← hst]; exact List.mem_map.2 ⟨e, he', rfl⟩
              have hmem2 : e.f1 ∈ (e0 :: r).map (·.f2) := (List.dropLast_sublist _).subset hmem
              exact hn.2.2 _ hbmem _ hmem2 g1.symm
        · have hn := hR.nodup
          rw [List.map_append, ← List.cons_append, List.nodup_append] at hn
          rw [List.nodup_cons]
          exact ⟨fun q => hn.2.2 _ hbmem _ q rfl, hn.2.1⟩
      have hdl : (delB b bans l).length ≤ 900 := Nat.le_trans (List.length_filter_le _ _) hl
      rcases least_spec (l := delB b bans l) (frm := b) (dst := dst) (now := endT size rs0 now) (size := size) (by_ := by_) (sh := frm :: rs0.map (·.f2)) hdl (by simp; omega) with ⟨hle, hnr⟩ | ⟨ss, hss, hle, hmin⟩
      · rw [hle]
        refine .inl ⟨rfl, fun es hS => ?_⟩
        obtain ⟨ss, _, hR⟩ := ofR es hS
        exact hnr ss hR
      · rw [hle]
        have hS := toR ss hss
        refine .inr ⟨rs0 ++ ss, hS, ?_, fun es' hS' => ?_⟩
        · have hlen := way_short hS.1.way hS.1.nodup
          simp only [Option.map_some, if_true, Option.bind_some, hopsT_append, endT_append]
          rw [if_pos (by rw [List.length_append, hopsT_len, hopsT_len]; rw [List.length_append] at hlen; omega)]
        · obtain ⟨ss', rfl, hR'⟩ := ofR es' hS'
          exact keyLe_prefix rs0 (hmin ss' hR')
    · rw [if_neg hnd]
      refine .inl ⟨rfl, ?_⟩
      rintro es ⟨hR, rs, ss, rfl, hid, _⟩
      have hall := way_all (rs ++ ss) _ _ _ hR.way
      obtain rfl := hone rs hid (fun e he => (hall e (by simp [he])).1)
      have hn := hR.nodup
      rw [List.map_append, ← List.cons_append, List.nodup_append] at hn
      exact hnd hn.1
end Go.Proofs.Ytijflnpgiegajaa.Q
end
section
namespace Go.Proofs.Ytijflnpgiegajaa.Q
open Go.RowKit Go.Proofs.YtijflnpgiegajaaW.PrintWords Go.Proofs.YtijflnpgiegajaaW.PrintLast Go.Proofs.YtijflnpgiegajaaW.PrintMore Go.Proofs.Ytijflnpgiegajaa.IM Go.Proofs.Ytijflnpgiegajaa.Ev
set_option linter.unusedVariables false
set_option linter.unusedSimpArgs false
def net17 : List S65 := [⟨1, 1, 2, 10, 20, 3, 4, 30⟩, ⟨2, 2, 3, 30, 50, 9, 1, 30⟩, ⟨3, 1, 3, 30, 50, 9, 1, 90⟩, ⟨4, 2, 3, 0, 50, 1, 7, 90⟩]
structure BX (w : World) (g : Nat) (A : Option Addr) (c : Nat) (arr : Int) (hs : List S56) : Prop where
  G : w.heap[g]? = some (.cells #[.slice A hs.length c, .int .i64 arr] 27 (0, 0))
  C : Kd.C k56 w A hs.length hs
  L : hs.length ≤ c
theorem BX.below {w w' : World} {g : Nat} {A : Option Addr} {c : Nat} {arr : Int} {hs : List S56} (h : BX w g A c arr hs) (hb : Below w.heap.size w w') : BX w' g A c arr hs := ⟨blk_below h.G hb, Kd.C_below h.C hb, h.L⟩
theorem BX.c0 {w : World} {g : Nat} {A : Option Addr} {c : Nat} {arr : Int} {hs : List S56} (h : BX w g A c arr hs) : w.cell? ⟨g, 0, none⟩ = some (.slice A hs.length c) := (blk_cell h.G 0).trans rfl
theorem BX.c1 {w : World} {g : Nat} {A : Option Addr} {c : Nat} {arr : Int} {hs : List S56} (h : BX w g A c arr hs) : w.cell? ⟨g, 1, none⟩ = some (.int .i64 arr) := (blk_cell h.G 1).trans rfl
end Go.Proofs.Ytijflnpgiegajaa.Q
end
section
namespace Go.Proofs.Ytijflnpgiegajaa.Q
open Go.RowKit Go.Proofs.YtijflnpgiegajaaW.PrintWords Go.Proofs.YtijflnpgiegajaaW.PrintLast Go.Proofs.YtijflnpgiegajaaW.PrintMore Go.Proofs.Ytijflnpgiegajaa.IM Go.Proofs.Ytijflnpgiegajaa.Ev
set_option linter.unusedVariables false
set_option linter.unusedSimpArgs false
theorem n18 : feluccalaw18_net.f = some net17 := by kernel_rfl
theorem a18 : spur_Route.f net17 [] [] 1 3 0 7 100 = some ([(⟨1, 10, 17⟩ : S56), (⟨4, 17, 31⟩ : S56)], 31, true) := by kernel_rfl
theorem b18 : spur_Route.f net17 [] [1] 1 3 0 7 100 = some ([(⟨3, 30, 32⟩ : S56)], 32, true) := by kernel_rfl
theorem c18 : spur_Route.f net17 [1] [4] 1 3 0 7 100 = some ([(⟨1, 10, 17⟩ : S56), (⟨2, 30, 32⟩ : S56)], 32, true) := by kernel_rfl
theorem d18 : spur_Route.f net17 [1] [4, 2] 1 3 0 7 100 = some ([], 0, false) := by kernel_rfl
theorem e18 : spur_Route.f net17 [3] [3, 1, 4] 1 3 0 7 100 = some ([(⟨3, 30, 32⟩ : S56)], 32, true) := by kernel_rfl
theorem f18 : spur_Route.f net17 [2] [] 1 3 0 7 100 = some ([], 0, false) := by kernel_rfl
theorem litI1 {W : World} {g : Nat} {a : Int} (h : W.heap[g]? = some (.cells #[.int .i64 a] 3 (0, 0))) : Kd.C (Kd.int .i64) W (some ⟨g, 0, none⟩) 1 [a] := by
  refine ⟨rfl, by decide, fun _ => ⟨⟨g, 0, none⟩, rfl, fun j p hj => ?_⟩⟩
  have hj2 : j < 1 := (List.getElem?_eq_some_iff.1 hj).1
  match j, hj2 with
  | 0, _ =>
    injection hj with hj
    subst hj
    refine ⟨[.int .i64 a], rfl, rfl, fun i u hu => ?_⟩
    have hi : i < 1 := (List.getElem?_eq_some_iff.1 hu).1
    match i, hi with
    | 0, _ => injection hu with hu; subst hu; exact (blk_cell h 0).trans rfl
theorem litI2 {W : World} {g : Nat} {a b : Int} (h : W.heap[g]? = some (.cells #[.int .i64 a, .int .i64 b] 3 (0, 0))) : Kd.C (Kd.int .i64) W (some ⟨g, 0, none⟩) 2 [a, b] := by
  refine ⟨rfl, by decide, fun _ => ⟨⟨g, 0, none⟩, rfl, fun j p hj => ?_⟩⟩
  have hj2 : j < 2 := (List.getElem?_eq_some_iff.1 hj).1
  match j, hj2 with
  | 0, _ =>
    injection hj with hj
    subst hj
    refine ⟨[.int .i64 a], rfl, rfl, fun i u hu => ?_⟩
    have hi : i < 1 := (List.getElem?_eq_some_iff.1 hu).1
    match i, hi with
    | 0, _ => injection hu with hu; subst hu; exact (blk_cell h 0).trans rfl
  | 1, _ =>
    injection hj with hj
    subst hj
    refine ⟨[.int .i64 b], rfl, rfl, fun i u hu => ?_⟩
    have hi : i < 1 := (List.getElem?_eq_some_iff.1 hu).1
    match i, hi with
    | 0, _ => injection hu with hu; subst hu; exact (blk_cell h 1).trans rfl
theorem litI3 {W : World} {g : Nat} {a b c : Int} (h : W.heap[g]? = some (.cells #[.int .i64 a, .int .i64 b, .int .i64 c] 3 (0, 0))) : Kd.C (Kd.int .i64) W (some ⟨g, 0, none⟩) 3 [a, b, c] := by
  refine ⟨rfl, by decide, fun _ => ⟨⟨g, 0, none⟩, rfl, fun j p hj => ?_⟩⟩
  have hj2 : j < 3 := (List.getElem?_eq_some_iff.1 hj).1
  match j, hj2 with
  | 0, _ =>
    injection hj with hj
    subst hj
    refine ⟨[.int .i64 a], rfl, rfl, fun i u hu => ?_⟩
    have hi : i < 1 := (List.getElem?_eq_some_iff.1 hu).1
    match i, hi with
    | 0, _ => injection hu with hu; subst hu; exact (blk_cell h 0).trans rfl
  | 1, _ =>
    injection hj with hj
    subst hj
    refine ⟨[.int .i64 b], rfl, rfl, fun i u hu => ?_⟩
    have hi : i < 1 := (List.getElem?_eq_some_iff.1 hu).1
    match i, hi with
    | 0, _ => injection hu with hu; subst hu; exact (blk_cell h 1).trans rfl
  | 2, _ =>
    injection hj with hj
    subst hj
    refine ⟨[.int .i64 c], rfl, rfl, fun i u hu => ?_⟩
    have hi : i < 1 := (List.getElem?_eq_some_iff.1 hu).1
    match i, hi with
    | 0, _ => injection hu with hu; subst hu; exact (blk_cell h 2).trans rfl
theorem blk_new1 (w : World) (x y : Obj) : ((w.alloc x).alloc y).heap[w.heap.size + 1]? = some y := by
  have h := blk_new (w.alloc x) y
  have e : (w.alloc x).heap.size = w.heap.size + 1 := by show (w.heap.push x).size = _; simp
  rwa [e] at h
def feluccalaw18_small.f : Option Bool := some true
set_option maxHeartbeats 8000000 in
set_option maxRecDepth 100000 in
theorem feluccalaw18_small.calls (r : Bool) (w : World) (h : feluccalaw18_small.f = some r) :
    Calls Try.prog 24 #[] w fun e w' => e = .returned (.bool r) ∧ Below w.heap.size w w' := by
  obtain rfl : true = r := Option.some.inj h
  clear h
  have HB0 := Aside0.mk (Below.refl w.heap.size w)
  have tok0 := Aside0.mk trivial
  have tok1 := Aside0.mk trivial
  have tok2 := Aside0.mk trivial
  have tok3 := Aside0.mk trivial
  have tok4 := Aside0.mk trivial
  have tok5 := Aside0.mk trivial
  have sak0 := Aside0.mk trivial
  have idk0 := Aside0.mk trivial
  have sak1 := Aside0.mk trivial
  have idk1 := Aside0.mk trivial
  have sak2 := Aside0.mk trivial
  have idk2 := Aside0.mk trivial
  have sak3 := Aside0.mk trivial
  have idk3 := Aside0.mk trivial
  go_enter Try.func24, Try.ntmps24
  go_wp2_with (first
    | (go_at_call 54; go_loud (refine (feluccalaw18_net.calls net17 _ n18).mono ?_); rintro e w1 ⟨v0, rfl, ho, hb⟩; obtain ⟨A0, c0, rfl, hle0, hc0⟩ := Kd.R_reads ho; have HN1 := Aside0.mk hc0; have HC := Aside0.mk hle0; have HB1 := Aside0.mk (below_step HB0.out hb); clear ho hb hle0 hc0 HB0)
    | (have _q := tok0.out; clear _q; go_at_call 25; go_loud (refine (spur_Route.calls A0 c0 net17 none 0 [] none 0 [] 1 3 0 7 100 [(⟨1, 10, 17⟩ : S56), (⟨4, 17, 31⟩ : S56)] 31 true _ (Kd.C_below HN1.out (Below.refl _ _)) HC.out (Kd.C_nil _ _) (by decide) (Kd.C_nil _ _) (by decide) a18).mono ?_); rintro e u0 ⟨v, rfl, ho, hb⟩; obtain ⟨A, c, rfl, hle, hcc⟩ := Kd.R_reads ho; have HY := Aside0.mk hcc; have HZ := Aside0.mk hle; have hbb := below_step (Below.refl _ _) hb; have HB2 := Aside0.mk (below_step HB1.out hbb); have HN2 := Aside0.mk (Kd.C_below HN1.out hbb); clear ho hb hbb hle hcc tok0 HB1 HN1)
    | ((with_reducible refine gate_dst (N := 2) rfl ?_); go_loud (refine box2 2 rfl rfl rfl rfl rfl rfl #[.slice A _ c, .int .i64 31] info27 rfl rfl (by simp [Value.oneCell']) (by first | (go_simp; done) | (go_simp; rfl)) (by first | (go_simp; done) | (go_simp; rfl)) ?_); intro g0 y0 hg hblk hbw hs; have X0_3 := Aside0.mk (show BX y0 g0 A c 31 [(⟨1, 10, 17⟩ : S56), (⟨4, 17, 31⟩ : S56)] from ⟨hblk, Kd.C_below HY.out hbw, HZ.out⟩); have HB3 := Aside0.mk (below_step HB2.out hbw); have HN3 := Aside0.mk (Kd.C_below HN2.out hbw); clear hg hblk hbw hs HY HZ HB2 HN2)
    | (have _q := tok1.out; clear _q; go_at_call 25; go_loud (refine (spur_Route.calls A0 c0 net17 none 0 [] (some _) 1 [1] 1 3 0 7 100 [(⟨3, 30, 32⟩ : S56)] 32 true _ (Kd.C_below HN3.out (below_alloc (Below.refl _ _) _)) HC.out (Kd.C_nil _ _) (by decide) (litI1 (blk_new _ _)) (by decide) b18).mono ?_); rintro e u1 ⟨v, rfl, ho, hb⟩; obtain ⟨A, c, rfl, hle, hcc⟩ := Kd.R_reads ho; have HY := Aside0.mk hcc; have HZ := Aside0.mk hle; have hbb := below_step (below_alloc (Below.refl _ _) _) hb; have HB4 := Aside0.mk (below_step HB3.out hbb); have HN4 := Aside0.mk (Kd.C_below HN3.out hbb); have X0_4 := Aside0.mk (X0_3.out.below hbb); clear ho hb hbb hle hcc tok1 HB3 HN3 X0_3)
    | ((with_reducible refine gate_dst (N := 4) rfl ?_); go_loud (refine box2 4 rfl rfl rfl rfl rfl rfl #[.slice A _ c, .int .i64 32] info27 rfl rfl (by simp [Value.oneCell']) (by first | (go_simp; done) | (go_simp; rfl)) (by first | (go_simp; done) | (go_simp; rfl)) ?_); intro g1 y1 hg hblk hbw hs; have X1_5 := Aside0.mk (show BX y1 g1 A c 32 [(⟨3, 30, 32⟩ : S56)] from ⟨hblk, Kd.C_below HY.out hbw, HZ.out⟩); have HB5 := Aside0.mk (below_step HB4.out hbw); have HN5 := Aside0.mk (Kd.C_below HN4.out hbw); have X0_5 := Aside0.mk (X0_4.out.below hbw); clear hg hblk hbw hs HY HZ HB4 HN4 X0_4)
    | (have _q := tok2.out; clear _q; go_at_call 25; go_loud (refine (spur_Route.calls A0 c0 net17 (some _) 1 [1] (some _) 1 [4] 1 3 0 7 100 [(⟨1, 10, 17⟩ : S56), (⟨2, 30, 32⟩ : S56)] 32 true _ (Kd.C_below HN5.out (below_alloc (below_alloc (Below.refl _ _) _) _)) HC.out (Kd.C_below (litI1 (blk_new _ _)) (below_alloc (Below.refl _ _) _)) (by decide) (litI1 (blk_new1 _ _ _)) (by decide) c18).mono ?_); rintro e u2 ⟨v, rfl, ho, hb⟩; obtain ⟨A, c, rfl, hle, hcc⟩ := Kd.R_reads ho; have HY := Aside0.mk hcc; have HZ := Aside0.mk hle; have hbb := below_step (below_alloc (below_alloc (Below.refl _ _) _) _) hb; have HB6 := Aside0.mk (below_step HB5.out hbb); have HN6 := Aside0.mk (Kd.C_below HN5.out hbb); have X0_6 := Aside0.mk (X0_5.out.below hbb); have X1_6 := Aside0.mk (X1_5.out.below hbb); clear ho hb hbb hle hcc tok2 HB5 HN5 X0_5 X1_5)
    | ((with_reducible refine gate_dst (N := 6) rfl ?_); go_loud (refine box2 6 rfl rfl rfl rfl rfl rfl #[.slice A _ c, .int .i64 32] info27 rfl rfl (by simp [Value.oneCell']) (by first | (go_simp; done) | (go_simp; rfl)) (by first | (go_simp; done) | (go_simp; rfl)) ?_); intro g2 y2 hg hblk hbw hs; have X2_7 := Aside0.mk (show BX y2 g2 A c 32 [(⟨1, 10, 17⟩ : S56), (⟨2, 30, 32⟩ : S56)] from ⟨hblk, Kd.C_below HY.out hbw, HZ.out⟩); have HB7 := Aside0.mk (below_step HB6.out hbw); have HN7 := Aside0.mk (Kd.C_below HN6.out hbw); have X0_7 := Aside0.mk (X0_6.out.below hbw); have X1_7 := Aside0.mk (X1_6.out.below hbw); clear hg hblk hbw hs HY HZ HB6 HN6 X0_6 X1_6)
    | (have _q := tok3.out; clear _q; go_at_call 25; go_loud (refine (spur_Route.calls A0 c0 net17 (some _) 1 [1] (some _) 2 [4, 2] 1 3 0 7 100 [] 0 false _ (Kd.C_below HN7.out (below_alloc (below_alloc (Below.refl _ _) _) _)) HC.out (Kd.C_below (litI1 (blk_new _ _)) (below_alloc (Below.refl _ _) _)) (by decide) (litI2 (blk_new1 _ _ _)) (by decide) d18).mono ?_); rintro e u3 ⟨v, rfl, ho, hb⟩; obtain ⟨A, c, rfl, hle, hcc⟩ := Kd.R_reads ho; have HY := Aside0.mk hcc; have HZ := Aside0.mk hle; have hbb := below_step (below_alloc (below_alloc (Below.refl _ _) _) _) hb; have HB8 := Aside0.mk (below_step HB7.out hbb); have HN8 := Aside0.mk (Kd.C_below HN7.out hbb); have X0_8 := Aside0.mk (X0_7.out.below hbb); have X1_8 := Aside0.mk (X1_7.out.below hbb); have X2_8 := Aside0.mk (X2_7.out.below hbb); clear ho hb hbb hle hcc tok3 HB7 HN7 X0_7 X1_7 X2_7)
    | ((with_reducible refine gate_dst (N := 8) rfl ?_); go_loud (refine box2 8 rfl rfl rfl rfl rfl rfl #[.slice A _ c, .int .i64 0] info27 rfl rfl (by simp [Value.oneCell']) (by first | (go_simp; done) | (go_simp; rfl)) (by first | (go_simp; done) | (go_simp; rfl)) ?_); intro g3 y3 hg hblk hbw hs; have HB9 := Aside0.mk (below_step HB8.out hbw); have HN9 := Aside0.mk (Kd.C_below HN8.out hbw); have X0_9 := Aside0.mk (X0_8.out.below hbw); have X1_9 := Aside0.mk (X1_8.out.below hbw); have X2_9 := Aside0.mk (X2_8.out.below hbw); clear hg hblk hbw hs HY HZ HB8 HN8 X0_8 X1_8 X2_8)
    | (have _q := tok4.out; clear _q; go_at_call 25; go_loud (refine (spur_Route.calls A0 c0 net17 (some _) 1 [3] (some _) 3 [3, 1, 4] 1 3 0 7 100 [(⟨3, 30, 32⟩ : S56)] 32 true _ (Kd.C_below HN9.out (below_alloc (below_alloc (Below.refl _ _) _) _)) HC.out (Kd.C_below (litI1 (blk_new _ _)) (below_alloc (Below.refl _ _) _)) (by decide) (litI3 (blk_new1 _ _ _)) (by decide) e18).mono ?_); rintro e u4 ⟨v, rfl, ho, hb⟩; obtain ⟨A, c, rfl, hle, hcc⟩ := Kd.R_reads ho; have HY := Aside0.mk hcc; have HZ := Aside0.mk hle; have hbb := below_step (below_alloc (below_alloc (Below.refl _ _) _) _) hb; have HB10 := Aside0.mk (below_step HB9.out hbb); have HN10 := Aside0.mk (Kd.C_below HN9.out hbb); have X0_10 := Aside0.mk (X0_9.out.below hbb); have X1_10 := Aside0.mk (X1_9.out.below hbb); have X2_10 := Aside0.mk (X2_9.out.below hbb); clear ho hb hbb hle hcc tok4 HB9 HN9 X0_9 X1_9 X2_9)
    | ((with_reducible refine gate_dst (N := 10) rfl ?_); go_loud (refine box2 10 rfl rfl rfl rfl rfl rfl #[.slice A _ c, .int .i64 32] info27 rfl rfl (by simp [Value.oneCell']) (by first | (go_simp; done) | (go_simp; rfl)) (by first | (go_simp; done) | (go_simp; rfl)) ?_); intro g4 y4 hg hblk hbw hs; have X4_11 := Aside0.mk (show BX y4 g4 A c 32 [(⟨3, 30, 32⟩ : S56)] from ⟨hblk, Kd.C_below HY.out hbw, HZ.out⟩); have HB11 := Aside0.mk (below_step HB10.out hbw); have HN11 := Aside0.mk (Kd.C_below HN10.out hbw); have X0_11 := Aside0.mk (X0_10.out.below hbw); have X1_11 := Aside0.mk (X1_10.out.below hbw); have X2_11 := Aside0.mk (X2_10.out.below hbw); clear hg hblk hbw hs HY HZ HB10 HN10 X0_10 X1_10 X2_10)
    | (have _q := tok5.out; clear _q; go_at_call 25; go_loud (refine (spur_Route.calls A0 c0 net17 (some _) 1 [2] none 0 [] 1 3 0 7 100 [] 0 false _ (Kd.C_below HN11.out (below_alloc (Below.refl _ _) _)) HC.out (litI1 (blk_new _ _)) (by decide) (Kd.C_nil _ _) (by decide) f18).mono ?_); rintro e u5 ⟨v, rfl, ho, hb⟩; obtain ⟨A, c, rfl, hle, hcc⟩ := Kd.R_reads ho; have HY := Aside0.mk hcc; have HZ := Aside0.mk hle; have hbb := below_step (below_alloc (Below.refl _ _) _) hb; have HB12 := Aside0.mk (below_step HB11.out hbb); have HN12 := Aside0.mk (Kd.C_below HN11.out hbb); have X0_12 := Aside0.mk (X0_11.out.below hbb); have X1_12 := Aside0.mk (X1_11.out.below hbb); have X2_12 := Aside0.mk (X2_11.out.below hbb); have X4_12 := Aside0.mk (X4_11.out.below hbb); clear ho hb hbb hle hcc tok5 HB11 HN11 X0_11 X1_11 X2_11 X4_11)
    | ((with_reducible refine gate_dst (N := 12) rfl ?_); go_loud (refine box2 12 rfl rfl rfl rfl rfl rfl #[.slice A _ c, .int .i64 0] info27 rfl rfl (by simp [Value.oneCell']) (by first | (go_simp; done) | (go_simp; rfl)) (by first | (go_simp; done) | (go_simp; rfl)) ?_); intro g5 y5 hg hblk hbw hs; have HB13 := Aside0.mk (below_step HB12.out hbw); have HN13 := Aside0.mk (Kd.C_below HN12.out hbw); have X0_13 := Aside0.mk (X0_12.out.below hbw); have X1_13 := Aside0.mk (X1_12.out.below hbw); have X2_13 := Aside0.mk (X2_12.out.below hbw); have X4_13 := Aside0.mk (X4_12.out.below hbw); have x00 := X0_13.out.c0; have x01 := X0_13.out.c1; have x10 := X1_13.out.c0; have x11 := X1_13.out.c1; have x20 := X2_13.out.c0; have x21 := X2_13.out.c1; have x40 := X4_13.out.c0; have x41 := X4_13.out.c1; clear hg hblk hbw hs HY HZ HB12 HN12 X0_12 X1_12 X2_12 X4_12)
    | (have _q := idk0.out; clear _q; go_at_call 17; go_loud (refine (path_IDs.calls 9 _ _ [(⟨1, 10, 17⟩ : S56), (⟨4, 17, 31⟩ : S56)] 31 [1, 4] _ X0_13.out.C X0_13.out.L (by kernel_rfl)).mono ?_); rintro e z0 ⟨v, rfl, ho, hb⟩; obtain ⟨AI, cI, rfl, hle, hcc⟩ := Kd.R_reads ho; have HY := Aside0.mk hcc; have HZ := Aside0.mk hle; have HB14 := Aside0.mk (below_step HB13.out hb); have HN14 := Aside0.mk (Kd.C_below HN13.out hb); have X0_14 := Aside0.mk (X0_13.out.below hb); have X1_14 := Aside0.mk (X1_13.out.below hb); have X2_14 := Aside0.mk (X2_13.out.below hb); have X4_14 := Aside0.mk (X4_13.out.below hb); clear x00 x01 x10 x11 x20 x21 x40 x41; have x00 := X0_14.out.c0; have x01 := X0_14.out.c1; have x10 := X1_14.out.c0; have x11 := X1_14.out.c1; have x20 := X2_14.out.c0; have x21 := X2_14.out.c1; have x40 := X4_14.out.c0; have x41 := X4_14.out.c1; clear ho hb hle hcc idk0 HB13 HN13 X0_13 X1_13 X2_13 X4_13)
    | (have _q := sak0.out; clear _q; go_at_call 29; go_loud (refine (feluccaref05_Ints.calls 9 AI cI [1, 4] (some _) 2 [1, 4] true _ (Kd.C_below HY.out (below_alloc (Below.refl _ _) _)) HZ.out (litI2 (blk_new _ _)) (by decide) (by kernel_rfl)).mono ?_); rintro e zz0 ⟨rfl, hb⟩; have hbb := below_step (below_alloc (Below.refl _ _) _) hb.below; have HB15 := Aside0.mk (below_step HB14.out hbb); have HN15 := Aside0.mk (Kd.C_below HN14.out hbb); have X0_15 := Aside0.mk (X0_14.out.below hbb); have X1_15 := Aside0.mk (X1_14.out.below hbb); have X2_15 := Aside0.mk (X2_14.out.below hbb); have X4_15 := Aside0.mk (X4_14.out.below hbb); clear x00 x01 x10 x11 x20 x21 x40 x41; have x00 := X0_15.out.c0; have x01 := X0_15.out.c1; have x10 := X1_15.out.c0; have x11 := X1_15.out.c1; have x20 := X2_15.out.c0; have x21 := X2_15.out.c1; have x40 := X4_15.out.c0; have x41 := X4_15.out.c1; clear hb hbb HY HZ sak0 HB14 HN14 X0_14 X1_14 X2_14 X4_14)
    | (have _q := idk1.out; clear _q; go_at_call 17; go_loud (refine (path_IDs.calls 9 _ _ [(⟨3, 30, 32⟩ : S56)] 32 [3] _ X1_15.out.C X1_15.out.L (by kernel_rfl)).mono ?_); rintro e z1 ⟨v, rfl, ho, hb⟩; obtain ⟨AI, cI, rfl, hle, hcc⟩ := Kd.R_reads ho; have HY := Aside0.mk hcc; have HZ := Aside0.mk hle; have HB16 := Aside0.mk (below_step HB15.out hb); have HN16 := Aside0.mk (Kd.C_below HN15.out hb); have X0_16 := Aside0.mk (X0_15.out.below hb); have X1_16 := Aside0.mk (X1_15.out.below hb); have X2_16 := Aside0.mk (X2_15.out.below hb); have X4_16 := Aside0.mk (X4_15.out.below hb); clear x00 x01 x10 x11 x20 x21 x40 x41; have x00 := X0_16.out.c0; have x01 := X0_16.out.c1; have x10 := X1_16.out.c0; have x11 := X1_16.out.c1; have x20 := X2_16.out.c0; have x21 := X2_16.out.c1; have x40 := X4_16.out.c0; have x41 := X4_16.out.c1; clear ho hb hle hcc idk1 HB15 HN15 X0_15 X1_15 X2_15 X4_15)
    | (have _q := sak1.out; clear _q; go_at_call 29; go_loud (refine (feluccaref05_Ints.calls 9 AI cI [3] (some _) 1 [3] true _ (Kd.C_below HY.out (below_alloc (Below.refl _ _) _)) HZ.out (litI1 (blk_new _ _)) (by decide) (by kernel_rfl)).mono ?_); rintro e zz1 ⟨rfl, hb⟩; have hbb := below_step (below_alloc (Below.refl _ _) _) hb.below; have HB17 := Aside0.mk (below_step HB16.out hbb); have HN17 := Aside0.mk (Kd.C_below HN16.out hbb); have X0_17 := Aside0.mk (X0_16.out.below hbb); have X1_17 := Aside0.mk (X1_16.out.below hbb); have X2_17 := Aside0.mk (X2_16.out.below hbb); have X4_17 := Aside0.mk (X4_16.out.below hbb); clear x00 x01 x10 x11 x20 x21 x40 x41; have x00 := X0_17.out.c0; have x01 := X0_17.out.c1; have x10 := X1_17.out.c0; have x11 := X1_17.out.c1; have x20 := X2_17.out.c0; have x21 := X2_17.out.c1; have x40 := X4_17.out.c0; have x41 := X4_17.out.c1; clear hb hbb HY HZ sak1 HB16 HN16 X0_16 X1_16 X2_16 X4_16)
    | (have _q := idk2.out; clear _q; go_at_call 17; go_loud (refine (path_IDs.calls 9 _ _ [(⟨1, 10, 17⟩ : S56), (⟨2, 30, 32⟩ : S56)] 32 [1, 2] _ X2_17.out.C X2_17.out.L (by kernel_rfl)).mono ?_); rintro e z2 ⟨v, rfl, ho, hb⟩; obtain ⟨AI, cI, rfl, hle, hcc⟩ := Kd.R_reads ho; have HY := Aside0.mk hcc; have HZ := Aside0.mk hle; have HB18 := Aside0.mk (below_step HB17.out hb); have HN18 := Aside0.mk (Kd.C_below HN17.out hb); have X0_18 := Aside0.mk (X0_17.out.below hb); have X1_18 := Aside0.mk (X1_17.out.below hb); have X2_18 := Aside0.mk (X2_17.out.below hb); have X4_18 := Aside0.mk (X4_17.out.below hb); clear x00 x01 x10 x11 x20 x21 x40 x41; have x00 := X0_18.out.c0; have x01 := X0_18.out.c1; have x10 := X1_18.out.c0; have x11 := X1_18.out.c1; have x20 := X2_18.out.c0; have x21 := X2_18.out.c1; have x40 := X4_18.out.c0; have x41 := X4_18.out.c1; clear ho hb hle hcc idk2 HB17 HN17 X0_17 X1_17 X2_17 X4_17)
    | (have _q := sak2.out; clear _q; go_at_call 29; go_loud (refine (feluccaref05_Ints.calls 9 AI cI [1, 2] (some _) 2 [1, 2] true _ (Kd.C_below HY.out (below_alloc (Below.refl _ _) _)) HZ.out (litI2 (blk_new _ _)) (by decide) (by kernel_rfl)).mono ?_); rintro e zz2 ⟨rfl, hb⟩; have hbb := below_step (below_alloc (Below.refl _ _) _) hb.below; have HB19 := Aside0.mk (below_step HB18.out hbb); have HN19 := Aside0.mk (Kd.C_below HN18.out hbb); have X0_19 := Aside0.mk (X0_18.out.below hbb); have X1_19 := Aside0.mk (X1_18.out.below hbb); have X2_19 := Aside0.mk (X2_18.out.below hbb); have X4_19 := Aside0.mk (X4_18.out.below hbb); clear x00 x01 x10 x11 x20 x21 x40 x41; have x00 := X0_19.out.c0; have x01 := X0_19.out.c1; have x10 := X1_19.out.c0; have x11 := X1_19.out.c1; have x20 := X2_19.out.c0; have x21 := X2_19.out.c1; have x40 := X4_19.out.c0; have x41 := X4_19.out.c1; clear hb hbb HY HZ sak2 HB18 HN18 X0_18 X1_18 X2_18 X4_18)
    | (have _q := idk3.out; clear _q; go_at_call 17; go_loud (refine (path_IDs.calls 9 _ _ [(⟨3, 30, 32⟩ : S56)] 32 [3] _ X4_19.out.C X4_19.out.L (by kernel_rfl)).mono ?_); rintro e z3 ⟨v, rfl, ho, hb⟩; obtain ⟨AI, cI, rfl, hle, hcc⟩ := Kd.R_reads ho; have HY := Aside0.mk hcc; have HZ := Aside0.mk hle; have HB20 := Aside0.mk (below_step HB19.out hb); have HN20 := Aside0.mk (Kd.C_below HN19.out hb); have X0_20 := Aside0.mk (X0_19.out.below hb); have X1_20 := Aside0.mk (X1_19.out.below hb); have X2_20 := Aside0.mk (X2_19.out.below hb); have X4_20 := Aside0.mk (X4_19.out.below hb); clear x00 x01 x10 x11 x20 x21 x40 x41; have x00 := X0_20.out.c0; have x01 := X0_20.out.c1; have x10 := X1_20.out.c0; have x11 := X1_20.out.c1; have x20 := X2_20.out.c0; have x21 := X2_20.out.c1; have x40 := X4_20.out.c0; have x41 := X4_20.out.c1; clear ho hb hle hcc idk3 HB19 HN19 X0_19 X1_19 X2_19 X4_19)
    | (have _q := sak3.out; clear _q; go_at_call 29; go_loud (refine (feluccaref05_Ints.calls 9 AI cI [3] (some _) 1 [3] true _ (Kd.C_below HY.out (below_alloc (Below.refl _ _) _)) HZ.out (litI1 (blk_new _ _)) (by decide) (by kernel_rfl)).mono ?_); rintro e zz3 ⟨rfl, hb⟩; have hbb := below_step (below_alloc (Below.refl _ _) _) hb.below; have HB21 := Aside0.mk (below_step HB20.out hbb); have HN21 := Aside0.mk (Kd.C_below HN20.out hbb); have X0_21 := Aside0.mk (X0_20.out.below hbb); have X1_21 := Aside0.mk (X1_20.out.below hbb); have X2_21 := Aside0.mk (X2_20.out.below hbb); have X4_21 := Aside0.mk (X4_20.out.below hbb); clear x00 x01 x10 x11 x20 x21 x40 x41; have x00 := X0_21.out.c0; have x01 := X0_21.out.c1; have x10 := X1_21.out.c0; have x11 := X1_21.out.c1; have x20 := X2_21.out.c0; have x21 := X2_21.out.c1; have x40 := X4_21.out.c0; have x41 := X4_21.out.c1; clear hb hbb HY HZ sak3 HB20 HN20 X0_20 X1_20 X2_20 X4_20))
  go_ret
  exact ⟨rfl, HB21.out⟩
end Go.Proofs.Ytijflnpgiegajaa.Q
end
section
namespace Go.Proofs.Ytijflnpgiegajaa.Q
open Go.RowKit Go.Proofs.YtijflnpgiegajaaW.PrintWords Go.Proofs.YtijflnpgiegajaaW.PrintLast Go.Proofs.YtijflnpgiegajaaW.PrintMore
attribute [local go_sem] max2_int min2_int max_two min_two
set_option linter.unusedVariables false
set_option linter.unusedSimpArgs false
mutual
def feluccalaw18_SpurBans.j0 : Nat → List (S65) → List Int → List Int → List Int → Int → Int → Int → Int → Int → Bool → Bool → Option (Bool)
  | 0, _, _, _, _, _, _, _, _, _, _, _ => none
  | k + 1, x0, x1, x2, x3, x4, x5, x6, x7, x8, x19, x44 => if x44 = true then (some x19) else ((spur_Route.f x0 x1 x2 x4 x5 x6 x7 x8).bind fun bt556 => ((some (([] : List Int) : List Int)).bind fun y562 => (if y562.length + x2.length < 17592186044416 then ((some (y562 ++ x2 : List Int)).bind fun y565 => (if y565.length + x3.length < 17592186044416 then ((spur_Route.f x0 x1 (y565 ++ x3) x4 x5 x6 x7 x8).bind fun bt571 => (if bt556.2.2 = true then ((path_IDs.f k bt556.1 bt556.2.1).bind fun t577 => (feluccalaw18_SpurBans.l0 k x1 x3 x19 bt571.2.2 t577 0 bt556.1 bt556.2.1 bt571.1 bt571.2.1)) else (if x19 = true then (some (!bt571.2.2)) else (some false)))) else (none))) else (none))))
def feluccalaw18_SpurBans.l0 : Nat → List Int → List Int → Bool → Bool → List Int → Int → List (S56) → Int → List (S56) → Int → Option (Bool)
  | 0, _, _, _, _, _, _, _, _, _, _ => none
  | k + 1, x1, x3, x19, x23, x24, x25, x562000, x562001, x577000, x577001 => if x25 < (x3.length : Int) then (if (x24.length : Int) > (x1.length : Int) then (if 0 ≤ (x1.length : Int) then (if (x1.length : Int) < (x24.length : Int) then (if 0 ≤ x25 then (if (rd x24 (x1.length : Int)) = (rd x3 x25) then (if x19 = true then (if x23 = true then ((order_Less.f k x562000 x562001 x577000 x577001).bind fun t582 => (some t582)) else (some true)) else (some false)) else (feluccalaw18_SpurBans.l0 k x1 x3 x19 x23 x24 (wrap64 (x25 + 1)) x562000 x562001 x577000 x577001)) else (none)) else (none)) else (none)) else (feluccalaw18_SpurBans.l0 k x1 x3 x19 x23 x24 (wrap64 (x25 + 1)) x562000 x562001 x577000 x577001)) else (if x19 = true then (if x23 = true then ((path_Same.f k x562000 x562001 x577000 x577001).bind fun t583 => (some t583)) else (some false)) else (some false))
end
def feluccalaw18_SpurBans.f (k : Nat) (l0 : List (S65)) (l1 : List Int) (l2 : List Int) (l3 : List Int) (a4 : Int) (a5 : Int) (a6 : Int) (a7 : Int) (a8 : Int) : Option (Bool) := (feluccalaw18_small.f).bind fun t555 => (if (l0.length : Int) > 20 then (feluccalaw18_SpurBans.j0 k l0 l1 l2 l3 a4 a5 a6 a7 a8 t555 true) else (if (l1.length : Int) > 20 then (feluccalaw18_SpurBans.j0 k l0 l1 l2 l3 a4 a5 a6 a7 a8 t555 true) else (if (l2.length : Int) > 20 then (feluccalaw18_SpurBans.j0 k l0 l1 l2 l3 a4 a5 a6 a7 a8 t555 true) else (feluccalaw18_SpurBans.j0 k l0 l1 l2 l3 a4 a5 a6 a7 a8 t555 (decide ((l3.length : Int) > 20))))))
set_option maxHeartbeats 8000000 in
set_option maxRecDepth 100000 in
theorem feluccalaw18_SpurBans.calls (k : Nat) (A0 : Option Addr) (c0 : Nat) (l0 : List (S65)) (A1 : Option Addr) (c1 : Nat) (l1 : List Int) (A2 : Option Addr) (c2 : Nat) (l2 : List Int) (A3 : Option Addr) (c3 : Nat) (l3 : List Int) (a4 : Int) (a5 : Int) (a6 : Int) (a7 : Int) (a8 : Int) (r : Bool) (w : World) (hr0 : Kd.C k65 w A0 l0.length l0) (hc0 : l0.length ≤ c0) (hr1 : Kd.C (Kd.int .i64) w A1 l1.length l1) (hc1 : l1.length ≤ c1) (hr2 : Kd.C (Kd.int .i64) w A2 l2.length l2) (hc2 : l2.length ≤ c2) (hr3 : Kd.C (Kd.int .i64) w A3 l3.length l3) (hc3 : l3.length ≤ c3) (h : feluccalaw18_SpurBans.f k l0 l1 l2 l3 a4 a5 a6 a7 a8 = some r) :
    Calls Try.prog 7 #[.slice A0 l0.length c0, .slice A1 l1.length c1, .slice A2 l2.length c2, .slice A3 l3.length c3, .int .i64 a4, .int .i64 a5, .int .i64 a6, .int .i64 a7, .int .i64 a8] w fun e w' => e = .returned (.bool r) ∧ Below w.heap.size w w' := by
  have hu27 := Try.underlying27
  have HR0 := Aside0.mk hr0
  have HC0 := Aside0.mk hc0
  clear hr0 hc0
  have HR1 := Aside0.mk hr1
  have HC1 := Aside0.mk hc1
  clear hr1 hc1
  have HR2 := Aside0.mk hr2
  have HC2 := Aside0.mk hc2
  clear hr2 hc2
  have HR3 := Aside0.mk hr3
  have HC3 := Aside0.mk hc3
  clear hr3 hc3
  have HB := Aside0.mk (Below.refl w.heap.size w)
  have H : ((feluccalaw18_small.f).bind fun t555 => (if (l0.length : Int) > 20 then (feluccalaw18_SpurBans.j0 k l0 l1 l2 l3 a4 a5 a6 a7 a8 t555 true) else (if (l1.length : Int) > 20 then (feluccalaw18_SpurBans.j0 k l0 l1 l2 l3 a4 a5 a6 a7 a8 t555 true) else (if (l2.length : Int) > 20 then (feluccalaw18_SpurBans.j0 k l0 l1 l2 l3 a4 a5 a6 a7 a8 t555 true) else (feluccalaw18_SpurBans.j0 k l0 l1 l2 l3 a4 a5 a6 a7 a8 t555 (decide ((l3.length : Int) > 20))))))) = some r := h
  clear h
  replace H := Option.bind_eq_some_iff.mp H
  obtain ⟨t555, A100, H⟩ := H
  replace H : (if (l0.length : Int) > 20 then (feluccalaw18_SpurBans.j0 k l0 l1 l2 l3 a4 a5 a6 a7 a8 t555 true) else (if (l1.length : Int) > 20 then (feluccalaw18_SpurBans.j0 k l0 l1 l2 l3 a4 a5 a6 a7 a8 t555 true) else (if (l2.length : Int) > 20 then (feluccalaw18_SpurBans.j0 k l0 l1 l2 l3 a4 a5 a6 a7 a8 t555 true) else (feluccalaw18_SpurBans.j0 k l0 l1 l2 l3 a4 a5 a6 a7 a8 t555 (decide ((l3.length : Int) > 20)))))) = some r := H
  have A10 := Aside0.mk A100
  clear A100
  have HC11 := Aside0.mk H
  clear H
  go_enter Try.func7, Try.ntmps7
  go_upto_region 2 with (first | (go_at_call 24; (with_reducible refine (feluccalaw18_small.calls  t555 _ A10.out).mono ?_); rintro e w12 ⟨rfl, hb⟩; have n0_ := Aside0.mk (below_step (by repeat (first | (with_reducible first | exact HB.out | apply below_alloc | apply pw_below_drewN | apply below_drew1) | exact HB.out)) hb); clear HB; have HB := n0_; clear n0_; (try clear hb); (try clear hb2); (try clear hk); (try clear hi)))
  repeat (go_quiet (first | (go_at_call 24; (with_reducible refine (feluccalaw18_small.calls  t555 _ A10.out).mono ?_); rintro e w12 ⟨rfl, hb⟩; have n0_ := Aside0.mk (below_step (by repeat (first | (with_reducible first | exact HB.out | apply below_alloc | apply pw_below_drewN | apply below_drew1) | exact HB.out)) hb); clear HB; have HB := n0_; clear n0_; (try clear hb); (try clear hb2); (try clear hk); (try clear hi))); go_upto_region 2 with (first | (go_at_call 24; (with_reducible refine (feluccalaw18_small.calls  t555 _ A10.out).mono ?_); rintro e w12 ⟨rfl, hb⟩; have n0_ := Aside0.mk (below_step (by repeat (first | (with_reducible first | exact HB.out | apply below_alloc | apply pw_below_drewN | apply below_drew1) | exact HB.out)) hb); clear HB; have HB := n0_; clear n0_; (try clear hb); (try clear hb2); (try clear hk); (try clear hi))))
  (try simp only [Act.put, List.setIfInBounds_toArray, List.set_cons_zero, List.set_cons_succ])
  go_cut [44] (fun v44 wc => ∃ (kq : Nat) (x44_10 : Bool), v44 = .bool x44_10 ∧ Aside0 (feluccalaw18_SpurBans.j0 kq l0 l1 l2 l3 a4 a5 a6 a7 a8 t555 x44_10 = some r) ∧ Aside0 (kq ≤ k) ∧ Aside0 (Below w.heap.size w wc))
  case first =>
    have H := HC11.out
    clear HC11
    by_cases c13 : (l0.length : Int) > 20
    · rw [if_pos c13] at H
      have c13b0 : decide (20 < (l0.length : Int)) = true := decide_eq_true c13
      have c13b1 : decide (20 < l0.length) = true := decide_eq_true (by omega)
      clear c13
      (first | rw [c13b0] | (simp only [i64_w, i32_w]; rw [c13b0]) | skip)
      have H' := Aside0.mk H
      clear H
      go_wp2
      repeat (go_quiet (fail); try go_wp2)
      go_meet
      case rel => exact ⟨_, (true), (by first | rfl | (simp; done) | (simp [*]; done)), H', ⟨by first | omega | exact Nat.le_refl _⟩, ⟨by repeat (first | (with_reducible first | exact HB.out | apply below_alloc | apply pw_below_drewN | apply below_drew1) | exact HB.out)⟩⟩
    · rw [if_neg c13] at H
      have c13b0 : decide (20 < (l0.length : Int)) = false := decide_eq_false c13
      have c13b1 : decide (20 < l0.length) = false := decide_eq_false (by omega)
      clear c13
      (first | rw [c13b0] | (simp only [i64_w, i32_w]; rw [c13b0]) | skip)
      by_cases c14 : (l1.length : Int) > 20
      · rw [if_pos c14] at H
        have c14b0 : decide (20 < (l1.length : Int)) = true := decide_eq_true c14
        have c14b1 : decide (20 < l1.length) = true := decide_eq_true (by omega)
        clear c14
        have H' := Aside0.mk H
        clear H
        go_wp2
        repeat (go_quiet (fail); try go_wp2)
        go_meet
        case rel => exact ⟨_, (true), (by first | rfl | (simp; done) | (simp [*]; done)), H', ⟨by first | omega | exact Nat.le_refl _⟩, ⟨by repeat (first | (with_reducible first | exact HB.out | apply below_alloc | apply pw_below_drewN | apply below_drew1) | exact HB.out)⟩⟩
      · rw [if_neg c14] at H
        have c14b0 : decide (20 < (l1.length : Int)) = false := decide_eq_false c14
        have c14b1 : decide (20 < l1.length) = false := decide_eq_false (by omega)
        clear c14
        by_cases c15 : (l2.length : Int) > 20
        · rw [if_pos c15] at H
          have c15b0 : decide (20 < (l2.length : Int)) = true := decide_eq_true c15
          have c15b1 : decide (20 < l2.length) = true := decide_eq_true (by omega)
          clear c15
          have H' := Aside0.mk H
          clear H
          go_wp2
          repeat (go_quiet (fail); try go_wp2)
          go_meet
          case rel => exact ⟨_, (true), (by first | rfl | (simp; done) | (simp [*]; done)), H', ⟨by first | omega | exact Nat.le_refl _⟩, ⟨by repeat (first | (with_reducible first | exact HB.out | apply below_alloc | apply pw_below_drewN | apply below_drew1) | exact HB.out)⟩⟩
        · rw [if_neg c15] at H
          have c15b0 : decide (20 < (l2.length : Int)) = false := decide_eq_false c15
          have c15b1 : decide (20 < l2.length) = false := decide_eq_false (by omega)
          clear c15
          have H' := Aside0.mk H
          clear H
          go_wp2
          repeat (go_quiet (fail); try go_wp2)
          go_meet
          case rel => exact ⟨_, (decide ((l3.length : Int) > 20)), (by first | rfl | (simp; done) | (simp [*]; done)), H', ⟨by first | omega | exact Nat.le_refl _⟩, ⟨by repeat (first | (with_reducible first | exact HB.out | apply below_alloc | apply pw_below_drewN | apply below_drew1) | exact HB.out)⟩⟩
  case rest =>
    clear HC11
    try clear c1
    try clear c2
    try clear p2
    try clear c3
    try clear c7
    try clear c13
    try clear c13b0
    try clear c13b1
    try clear c14
    try clear c14b0
    try clear c14b1
    try clear c15
    try clear c15b0
    try clear c15b1
    obtain ⟨kq, x44_10, rfl, HA, HJ10, HB⟩ := hcut
    cases kq with
    | zero => exact absurd HA.out (by simp [feluccalaw18_SpurBans.j0])
    | succ kj10 =>
      have H := HA.out
      clear HA
      simp only [feluccalaw18_SpurBans.j0] at H
      by_cases c16 : x44_10 = true
      · subst c16
        have H1 : (some t555) = some r := by rw [if_pos rfl] at H; exact H
        clear H
        have H := H1
        clear H1
        obtain rfl := Option.some.inj H
        go_wp2
        repeat (go_quiet (fail); try go_wp2)
        go_ret
        exact ⟨by first | rfl | (simp [errW_none, errW_some] <;> rfl) | (simp [*, errW_none, errW_some] <;> rfl), by repeat (first | (with_reducible first | exact HB.out | apply below_alloc | apply pw_below_drewN | apply below_drew1) | exact HB.out)⟩
      · replace c16 := Bool.eq_false_iff.mpr c16
        subst c16
        have H1 : ((spur_Route.f l0 l1 l2 a4 a5 a6 a7 a8).bind fun bt556 => ((some (([] : List Int) : List Int)).bind fun y562 => (if y562.length + l2.length < 17592186044416 then ((some (y562 ++ l2 : List Int)).bind fun y565 => (if y565.length + l3.length < 17592186044416 then ((spur_Route.f l0 l1 (y565 ++ l3) a4 a5 a6 a7 a8).bind fun bt571 => (if bt556.2.2 = true then ((path_IDs.f kj10 bt556.1 bt556.2.1).bind fun t577 => (feluccalaw18_SpurBans.l0 kj10 l1 l3 t555 bt571.2.2 t577 0 bt556.1 bt556.2.1 bt571.1 bt571.2.1)) else (if t555 = true then (some (!bt571.2.2)) else (some false)))) else (none))) else (none)))) = some r := by rw [if_neg (show ¬ (false = true) by decide)] at H; exact H
        clear H
        have H := H1
        clear H1
        replace H := Option.bind_eq_some_iff.mp H
        obtain ⟨⟨t556, t559, t560⟩, A170, H⟩ := H
        replace H : ((some (([] : List Int) : List Int)).bind fun y562 => (if y562.length + l2.length < 17592186044416 then ((some (y562 ++ l2 : List Int)).bind fun y565 => (if y565.length + l3.length < 17592186044416 then ((spur_Route.f l0 l1 (y565 ++ l3) a4 a5 a6 a7 a8).bind fun bt571 => (if t560 = true then ((path_IDs.f kj10 t556 t559).bind fun t577 => (feluccalaw18_SpurBans.l0 kj10 l1 l3 t555 bt571.2.2 t577 0 t556 t559 bt571.1 bt571.2.1)) else (if t555 = true then (some (!bt571.2.2)) else (some false)))) else (none))) else (none))) = some r := H
        have A17 := Aside0.mk A170
        clear A170
        obtain ⟨y562, hy562⟩ : ∃ y_ : List Int, y_ = (([] : List Int)) := ⟨_, rfl⟩
        replace H : (if y562.length + l2.length < 17592186044416 then ((some (y562 ++ l2 : List Int)).bind fun y565 => (if y565.length + l3.length < 17592186044416 then ((spur_Route.f l0 l1 (y565 ++ l3) a4 a5 a6 a7 a8).bind fun bt571 => (if t560 = true then ((path_IDs.f kj10 t556 t559).bind fun t577 => (feluccalaw18_SpurBans.l0 kj10 l1 l3 t555 bt571.2.2 t577 0 t556 t559 bt571.1 bt571.2.1)) else (if t555 = true then (some (!bt571.2.2)) else (some false)))) else (none))) else (none)) = some r := by first | (rw [hy562]; with_reducible exact H) | (have H2_ := (Option.bind_some _ _).symm.trans H; rw [hy562]; with_reducible exact H2_) | (have H2_ := (Option.bind_some _ _).symm.trans H; with_reducible exact H2_) | with_reducible exact H | (rw [hy562]; exact H) | exact H
        have Ny562 := Aside0.mk hy562
        clear hy562
        by_cases c18 : y562.length + l2.length < 17592186044416
        · rw [if_pos c18] at H
          have LMc18 := Aside0.mk c18
          clear c18
          obtain ⟨y565, hy565⟩ : ∃ y_ : List Int, y_ = (y562 ++ l2) := ⟨_, rfl⟩
          replace H : (if y565.length + l3.length < 17592186044416 then ((spur_Route.f l0 l1 (y565 ++ l3) a4 a5 a6 a7 a8).bind fun bt571 => (if t560 = true then ((path_IDs.f kj10 t556 t559).bind fun t577 => (feluccalaw18_SpurBans.l0 kj10 l1 l3 t555 bt571.2.2 t577 0 t556 t559 bt571.1 bt571.2.1)) else (if t555 = true then (some (!bt571.2.2)) else (some false)))) else (none)) = some r := by first | (rw [hy565]; with_reducible exact H) | (have H2_ := (Option.bind_some _ _).symm.trans H; rw [hy565]; with_reducible exact H2_) | (have H2_ := (Option.bind_some _ _).symm.trans H; with_reducible exact H2_) | with_reducible exact H | (rw [hy565]; exact H) | exact H
          have Ny565 := Aside0.mk hy565
          clear hy565
          by_cases c19 : y565.length + l3.length < 17592186044416
          · rw [if_pos c19] at H
            have LMc19 := Aside0.mk c19
            clear c19
            obtain ⟨y568, hy568⟩ : ∃ y_ : List Int, y_ = (y565 ++ l3) := ⟨_, rfl⟩
            replace H : ((spur_Route.f l0 l1 y568 a4 a5 a6 a7 a8).bind fun bt571 => (if t560 = true then ((path_IDs.f kj10 t556 t559).bind fun t577 => (feluccalaw18_SpurBans.l0 kj10 l1 l3 t555 bt571.2.2 t577 0 t556 t559 bt571.1 bt571.2.1)) else (if t555 = true then (some (!bt571.2.2)) else (some false)))) = some r := by first | (rw [hy568]; with_reducible exact H) | (have H2_ := (Option.bind_some _ _).symm.trans H; rw [hy568]; with_reducible exact H2_) | (have H2_ := (Option.bind_some _ _).symm.trans H; with_reducible exact H2_) | with_reducible exact H | (rw [hy568]; exact H) | exact H
            have Ny568 := Aside0.mk hy568
            clear hy568
            replace H := Option.bind_eq_some_iff.mp H
            obtain ⟨⟨t571, t574, t575⟩, A200, H⟩ := H
            replace H : (if t560 = true then ((path_IDs.f kj10 t556 t559).bind fun t577 => (feluccalaw18_SpurBans.l0 kj10 l1 l3 t555 t575 t577 0 t556 t559 t571 t574)) else (if t555 = true then (some (!t575)) else (some false))) = some r := H
            have A20 := Aside0.mk A200
            clear A200
            by_cases c21 : t560 = true
            · subst c21
              have H1 : ((path_IDs.f kj10 t556 t559).bind fun t577 => (feluccalaw18_SpurBans.l0 kj10 l1 l3 t555 t575 t577 0 t556 t559 t571 t574)) = some r := by rw [if_pos rfl] at H; exact H
              clear H
              have H := H1
              clear H1
              replace H := Option.bind_eq_some_iff.mp H
              obtain ⟨t577, A220, H⟩ := H
              replace H : (feluccalaw18_SpurBans.l0 kj10 l1 l3 t555 t575 t577 0 t556 t559 t571 t574) = some r := H
              have A22 := Aside0.mk A220
              clear A220
              have H' := Aside0.mk H
              clear H
              go_wp2_with (first | (go_at_call 25; (with_reducible refine (spur_Route.calls _ _ l0 _ _ l1 _ _ l2 a4 a5 a6 a7 a8 t556 t559 true _ ?side1 ?side2 ?side3 ?side4 ?side5 ?side6 A17.out).mono ?_); (case side1 => repeat (first | exact (Kd.C_below HR0.out HB.out) | (with_reducible refine Kd.C_alloc ?_ _) | (with_reducible refine Kd.C_drewN ?_ _) | (with_reducible refine Kd.C_drew ?_))); (case side2 => exact HC0.out); (case side3 => repeat (first | exact (Kd.C_below HR1.out HB.out) | (with_reducible refine Kd.C_alloc ?_ _) | (with_reducible refine Kd.C_drewN ?_ _) | (with_reducible refine Kd.C_drew ?_))); (case side4 => exact HC1.out); (case side5 => repeat (first | exact (Kd.C_below HR2.out HB.out) | (with_reducible refine Kd.C_alloc ?_ _) | (with_reducible refine Kd.C_drewN ?_ _) | (with_reducible refine Kd.C_drew ?_))); (case side6 => exact HC2.out); rintro e w23 ⟨v557, rfl, ho0, hb⟩; have n0_ := Aside0.mk (Kd.R_lower ho0 (below_size (by repeat (first | (with_reducible first | exact HB.out | apply below_alloc | apply pw_below_drewN | apply below_drew1) | exact HB.out)))); have n1_ := Aside0.mk (below_step (by repeat (first | (with_reducible first | exact HB.out | apply below_alloc | apply pw_below_drewN | apply below_drew1) | exact HB.out)) hb); clear HB; have HO558 := n0_; have HB := n1_; clear n0_ n1_; (try clear hb); (try clear hb2); (try clear hk); (try clear hi); (try clear ho0)) | ((with_reducible refine gate_dst (N := 20) rfl ?_); (try (refine gate_guard (by rfl) ?_; dsimp only)); refine box_event ?hg (N := 20) ?hd (cs := #[.slice none 0 0, .int .i64 0]) (t := 27) ?hr ?_; (case hd => rfl); (case hg => rfl); (case hr => first | (go_simp; done) | (go_simp; rfl)); intro gb561 hg w24 hbox hb; have n0_ := Aside0.mk (Kd.R_below (by (with_reducible repeat (first | apply Kd.R_alloc | apply Kd.R_drewN | apply Kd.R_drew)); exact HO558.out) hb); have n1_ := Aside0.mk (below_step (by repeat (first | (with_reducible first | exact HB.out | apply below_alloc | apply pw_below_drewN | apply below_drew1) | exact HB.out)) hb); have n2_ := Aside0.mk (hbox); have n3_ := Aside0.mk ((by rw [hg]; exact (below_size (by repeat (first | (with_reducible first | exact HB.out | apply below_alloc | apply pw_below_drewN | apply below_drew1) | exact HB.out))) : w.heap.size ≤ gb561)); have n4_ := Aside0.mk ((by rw [hg]; exact (below_size (by repeat (first | (with_reducible first | exact HB.out | apply below_alloc | apply pw_below_drewN | apply below_drew1) | exact HB.out))) : w.heap.size ≤ gb561)); clear HO558; clear HB; have HO558 := n0_; have HB := n1_; have BK561 := n2_; have GW561 := n3_; have GE561 := n4_; clear n0_ n1_ n2_ n3_ n4_; clear hb hbox hg; obtain ⟨Ao25, co25, eo25⟩ := Kd.R_slice HO558.out; subst eo25; have hcz26_0 : w24.cell? ⟨gb561, 0, none⟩ = some (.slice none 0 0) := (blk_cell BK561.out 0).trans rfl; have hcz26_1 : w24.cell? ⟨gb561, 1, none⟩ = some (.int .i64 0) := (blk_cell BK561.out 1).trans rfl; have hfz26_0 := blk_frozen BK561.out 0; have hfz26_1 := blk_frozen BK561.out 1) | ((with_reducible refine gate_dst (N := 61) rfl ?_); (try (refine gate_guard (by rfl) ?_; dsimp only)); refine Kd.R_lit (Kd.int .i64) _ 3 ?hg (N := 61) ?hd (xs := ([] : List Int)) (inner := []) (ok := fun _ => True) (okp := fun _ => True) ?hr ?hp (fun _ hk => hk) trivial (Below.refl _ _) (Nat.le_refl _) (by simp) ?_; (case hd => rfl); (case hg => rfl); (case hr => first | (go_simp; done) | (go_simp; rfl)); (case hp => exact (Reps.none _ _)); intro v563 w27 ho28 hb hg_ hnew_; clear hg_ hnew_; (first | rw [← Ny562.out] at ho28 | (simp only [Int.reduceToNat] at ho28; rw [← Ny562.out] at ho28)); have n0_ := Aside0.mk (Kd.R_below (by (with_reducible repeat (first | apply Kd.R_alloc | apply Kd.R_drewN | apply Kd.R_drew)); exact (Kd.R_mono (Kd.R_far (p := ⟨gb561, 1, none⟩) (Kd.R_far (p := ⟨gb561, 0, none⟩) (Kd.R_types HO558.out BK561.out (by decide)) (fun _ hk => hk.2) (.slice Ao25 t556.length co25)) (fun _ hk => hk.2) (.int .i64 t559)) (fun _ h_ => h_.1))) hb); have n1_ := Aside0.mk (Kd.R_lower ho28 (below_size (by repeat (first | (with_reducible first | exact HB.out | apply below_alloc | apply pw_below_drewN | apply below_drew1 | refine below_set ?_ GE561.out) | exact HB.out)))); have n2_ := Aside0.mk (blk_below (g := gb561) (o := .cells #[.slice Ao25 t556.length co25, .int .i64 t559] 27 (0, 0)) (by (with_reducible repeat (first | refine blk_drewN ?_ _ | refine blk_drew ?_ | refine blk_alloc ?_ _)); refine blk_put (cs := #[.slice Ao25 t556.length co25, .int .i64 0]) ?_ 1 _ rfl; (with_reducible repeat (first | refine blk_drewN ?_ _ | refine blk_drew ?_ | refine blk_alloc ?_ _)); refine blk_put (cs := #[.slice none 0 0, .int .i64 0]) ?_ 0 _ rfl; (with_reducible repeat (first | refine blk_drewN ?_ _ | refine blk_drew ?_ | refine blk_alloc ?_ _)); exact BK561.out) hb); have n3_ := Aside0.mk (below_step (by repeat (first | (with_reducible first | exact HB.out | apply below_alloc | apply pw_below_drewN | apply below_drew1 | refine below_set ?_ GE561.out) | exact HB.out)) hb); clear HO558; clear BK561; clear HB; have HO558 := n0_; have HO564 := n1_; have BK561 := n2_; have HB := n3_; clear n0_ n1_ n2_ n3_; clear hb ho28) | ((with_reducible refine gate_builtin (b := .append) (xs := #[.tmp 61, .tmp 62]) rfl ?_); (try (refine gate_guard (by rfl) ?_; dsimp only)); at_builtin; refine Kd.R_append_rows (Kd.int .i64) (w0 := w) w.heap.size rfl (.tmp 61) (.tmp 62) 23 3 (.int .i64 0) 8 rfl Try.underlying23 info3 rfl (by decide) (by omega) v563 y562 l2 _ _ _ (fun _ => True) (fun _ => False) rfl rfl ?aO ?aR (fun _ _ h => h) (fun _ h => h.elim) ?aF ?aB ?aS ?aL ?_; (case aR => repeat (first | exact (Kd.C_below HR2.out HB.out) | (with_reducible refine Kd.C_alloc ?_ _) | (with_reducible refine Kd.C_drewN ?_ _) | (with_reducible refine Kd.C_drew ?_))); (case aB => exact (by repeat (first | (with_reducible first | exact HB.out | apply below_alloc | apply pw_below_drewN | apply below_drew1 | refine below_set ?_ GE561.out) | exact HB.out))); (case aF => exact (fun _ _ => trivial)); (case aO => exact (by (with_reducible repeat (first | apply Kd.R_alloc | apply Kd.R_drewN | apply Kd.R_drew)); exact HO564.out)); (case aS => exact (below_size (by repeat (first | (with_reducible first | exact HB.out | apply below_alloc | apply pw_below_drewN | apply below_drew1 | refine below_set ?_ GE561.out) | exact HB.out)))); (case aL => have := LMc18.out; omega); intro v566 w29 ho hb hg hat; rw [← Ny565.out] at ho; have n0_ := Aside0.mk (Kd.R_over' (by (with_reducible repeat (first | apply Kd.R_alloc | apply Kd.R_drewN | apply Kd.R_drew)); exact HO558.out) (Kd.R_typed (by (with_reducible repeat (first | apply Kd.R_alloc | apply Kd.R_drewN | apply Kd.R_drew)); exact HO564.out)) (by decide) hg); have n1_ := Aside0.mk (blk_grown (g := gb561) (o := .cells #[.slice Ao25 t556.length co25, .int .i64 t559] 27 (0, 0)) (by (with_reducible repeat (first | refine blk_drewN ?_ _ | refine blk_drew ?_ | refine blk_alloc ?_ _)); exact BK561.out) hg (Kd.R_ne HO564.out BK561.out (by decide))); have n2_ := Aside0.mk (hb); have n3_ := Aside0.mk (ho); clear HO558; clear BK561; clear HB; clear HO564; have HO558 := n0_; have BK561 := n1_; have HB := n2_; have HO567 := n3_; clear n0_ n1_ n2_ n3_; clear ho hb hg hat) | ((with_reducible refine gate_builtin (b := .append) (xs := #[.tmp 63, .tmp 64]) rfl ?_); (try (refine gate_guard (by rfl) ?_; dsimp only)); at_builtin; refine Kd.R_append_rows (Kd.int .i64) (w0 := w) w.heap.size rfl (.tmp 63) (.tmp 64) 23 3 (.int .i64 0) 8 rfl Try.underlying23 info3 rfl (by decide) (by omega) v566 y565 l3 _ _ _ (fun _ => True) (fun _ => False) rfl rfl ?aO ?aR (fun _ _ h => h) (fun _ h => h.elim) ?aF ?aB ?aS ?aL ?_; (case aR => repeat (first | exact (Kd.C_below HR3.out HB.out) | (with_reducible refine Kd.C_alloc ?_ _) | (with_reducible refine Kd.C_drewN ?_ _) | (with_reducible refine Kd.C_drew ?_))); (case aB => exact (by repeat (first | (with_reducible first | exact HB.out | apply below_alloc | apply pw_below_drewN | apply below_drew1 | refine below_set ?_ GE561.out) | exact HB.out))); (case aF => exact (fun _ _ => trivial)); (case aO => exact (by (with_reducible repeat (first | apply Kd.R_alloc | apply Kd.R_drewN | apply Kd.R_drew)); exact HO567.out)); (case aS => exact (below_size (by repeat (first | (with_reducible first | exact HB.out | apply below_alloc | apply pw_below_drewN | apply below_drew1 | refine below_set ?_ GE561.out) | exact HB.out)))); (case aL => have := LMc19.out; omega); intro v569 w30 ho hb hg hat; rw [← Ny568.out] at ho; have n0_ := Aside0.mk (Kd.R_over' (by (with_reducible repeat (first | apply Kd.R_alloc | apply Kd.R_drewN | apply Kd.R_drew)); exact HO558.out) (Kd.R_typed (by (with_reducible repeat (first | apply Kd.R_alloc | apply Kd.R_drewN | apply Kd.R_drew)); exact HO567.out)) (by decide) hg); have n1_ := Aside0.mk (blk_grown (g := gb561) (o := .cells #[.slice Ao25 t556.length co25, .int .i64 t559] 27 (0, 0)) (by (with_reducible repeat (first | refine blk_drewN ?_ _ | refine blk_drew ?_ | refine blk_alloc ?_ _)); exact BK561.out) hg (Kd.R_ne HO567.out BK561.out (by decide))); have n2_ := Aside0.mk (hb); have n3_ := Aside0.mk (ho); clear HO558; clear BK561; clear HB; clear HO567; have HO558 := n0_; have BK561 := n1_; have HB := n2_; have HO570 := n3_; clear n0_ n1_ n2_ n3_; clear ho hb hg hat; obtain ⟨Ao31, co31, eo31⟩ := Kd.R_slice HO570.out; subst eo31) | (go_at_call 25; (with_reducible refine (spur_Route.calls _ _ l0 _ _ l1 _ _ y568 a4 a5 a6 a7 a8 t571 t574 t575 _ ?side1 ?side2 ?side3 ?side4 ?side5 ?side6 A20.out).mono ?_); (case side1 => repeat (first | exact (Kd.C_below HR0.out HB.out) | (with_reducible refine Kd.C_alloc ?_ _) | (with_reducible refine Kd.C_drewN ?_ _) | (with_reducible refine Kd.C_drew ?_))); (case side2 => exact HC0.out); (case side3 => repeat (first | exact (Kd.C_below HR1.out HB.out) | (with_reducible refine Kd.C_alloc ?_ _) | (with_reducible refine Kd.C_drewN ?_ _) | (with_reducible refine Kd.C_drew ?_))); (case side4 => exact HC1.out); (case side5 => repeat (first | exact (Kd.R_reads' HO570.out).2.2 | (with_reducible refine Kd.C_alloc ?_ _) | (with_reducible refine Kd.C_drewN ?_ _) | (with_reducible refine Kd.C_drew ?_))); (case side6 => exact (Kd.R_reads' HO570.out).2.1); rintro e w32 ⟨v572, rfl, ho0, hb⟩; have n0_ := Aside0.mk (Kd.R_elder' (by (with_reducible repeat (first | apply Kd.R_alloc | apply Kd.R_drewN | apply Kd.R_drew)); exact HO558.out) (Kd.R_base ho0) hb); have n1_ := Aside0.mk (Kd.R_below (by (with_reducible repeat (first | apply Kd.R_alloc | apply Kd.R_drewN | apply Kd.R_drew)); exact HO570.out) hb); have n2_ := Aside0.mk (Kd.R_lower (Kd.R_new' ho0 (Kd.R_lt (by (with_reducible repeat (first | apply Kd.R_alloc | apply Kd.R_drewN | apply Kd.R_drew)); exact HO558.out))) (below_size (by repeat (first | (with_reducible first | exact HB.out | apply below_alloc | apply pw_below_drewN | apply below_drew1 | refine below_set ?_ GE561.out) | exact HB.out)))); have n3_ := Aside0.mk (blk_below (g := gb561) (o := .cells #[.slice Ao25 t556.length co25, .int .i64 t559] 27 (0, 0)) (by (with_reducible repeat (first | refine blk_drewN ?_ _ | refine blk_drew ?_ | refine blk_alloc ?_ _)); exact BK561.out) hb); have n4_ := Aside0.mk (below_step (by repeat (first | (with_reducible first | exact HB.out | apply below_alloc | apply pw_below_drewN | apply below_drew1 | refine below_set ?_ GE561.out) | exact HB.out)) hb); clear HO558; clear HO570; clear BK561; clear HB; have HO558 := n0_; have HO570 := n1_; have HO573 := n2_; have BK561 := n3_; have HB := n4_; clear n0_ n1_ n2_ n3_ n4_; (try clear hb); (try clear hb2); (try clear hk); (try clear hi); (try clear ho0)) | ((with_reducible refine gate_dst (N := 22) rfl ?_); (try (refine gate_guard (by rfl) ?_; dsimp only)); refine box_event ?hg (N := 22) ?hd (cs := #[.slice none 0 0, .int .i64 0]) (t := 27) ?hr ?_; (case hd => rfl); (case hg => rfl); (case hr => first | (go_simp; done) | (go_simp; rfl)); intro gb576 hg w33 hbox hb; have n0_ := Aside0.mk (Kd.R_below (by (with_reducible repeat (first | apply Kd.R_alloc | apply Kd.R_drewN | apply Kd.R_drew)); exact HO558.out) hb); have n1_ := Aside0.mk (Kd.R_below (by (with_reducible repeat (first | apply Kd.R_alloc | apply Kd.R_drewN | apply Kd.R_drew)); exact HO570.out) hb); have n2_ := Aside0.mk (Kd.R_below (by (with_reducible repeat (first | apply Kd.R_alloc | apply Kd.R_drewN | apply Kd.R_drew)); exact HO573.out) hb); have n3_ := Aside0.mk (blk_below (g := gb561) (o := .cells #[.slice Ao25 t556.length co25, .int .i64 t559] 27 (0, 0)) (by (with_reducible repeat (first | refine blk_drewN ?_ _ | refine blk_drew ?_ | refine blk_alloc ?_ _)); exact BK561.out) hb); have n4_ := Aside0.mk (below_step (by repeat (first | (with_reducible first | exact HB.out | apply below_alloc | apply pw_below_drewN | apply below_drew1 | refine below_set ?_ GE561.out) | exact HB.out)) hb); have n5_ := Aside0.mk (hbox); have n6_ := Aside0.mk ((by rw [hg]; exact (below_size (by repeat (first | (with_reducible first | exact HB.out | apply below_alloc | apply pw_below_drewN | apply below_drew1 | refine below_set ?_ GE561.out) | exact HB.out))) : w.heap.size ≤ gb576)); have n7_ := Aside0.mk ((by rw [hg]; exact (below_size (by repeat (first | (with_reducible first | exact HB.out | apply below_alloc | apply pw_below_drewN | apply below_drew1 | refine below_set ?_ GE561.out) | exact HB.out))) : w.heap.size ≤ gb576)); have n8_ := Aside0.mk ((by rw [hg]; exact Nat.ne_of_lt (blk_lt (g := gb561) (o := .cells #[.slice Ao25 t556.length co25, .int .i64 t559] 27 (0, 0)) (by (with_reducible repeat (first | refine blk_drewN ?_ _ | refine blk_drew ?_ | refine blk_alloc ?_ _)); exact BK561.out)) : gb561 ≠ gb576)); have n9_ := Aside0.mk ((by rw [hg]; exact Nat.ne_of_gt (blk_lt (g := gb561) (o := .cells #[.slice Ao25 t556.length co25, .int .i64 t559] 27 (0, 0)) (by (with_reducible repeat (first | refine blk_drewN ?_ _ | refine blk_drew ?_ | refine blk_alloc ?_ _)); exact BK561.out)) : gb576 ≠ gb561)); clear HO558; clear HO570; clear HO573; clear BK561; clear HB; have HO558 := n0_; have HO570 := n1_; have HO573 := n2_; have BK561 := n3_; have HB := n4_; have BK576 := n5_; have GW576 := n6_; have GE576 := n7_; have NB561_576 := n8_; have NB576_561 := n9_; clear n0_ n1_ n2_ n3_ n4_ n5_ n6_ n7_ n8_ n9_; clear hb hbox hg; obtain ⟨Ao34, co34, eo34⟩ := Kd.R_slice HO573.out; subst eo34; have hnb35 := NB576_561.out; have hnc35 := NB561_576.out; have hcz36_0 : w33.cell? ⟨gb576, 0, none⟩ = some (.slice none 0 0) := (blk_cell BK576.out 0).trans rfl; have hcz36_1 : w33.cell? ⟨gb576, 1, none⟩ = some (.int .i64 0) := (blk_cell BK576.out 1).trans rfl; have hfz36_0 := blk_frozen BK576.out 0; have hfz36_1 := blk_frozen BK576.out 1; have hcz37_0 : w33.cell? ⟨gb561, 0, none⟩ = some (.slice Ao25 t556.length co25) := (blk_cell BK561.out 0).trans rfl; have hcz37_1 : w33.cell? ⟨gb561, 1, none⟩ = some (.int .i64 t559) := (blk_cell BK561.out 1).trans rfl; have hfz37_0 := blk_frozen BK561.out 0; have hfz37_1 := blk_frozen BK561.out 1) | (go_at_call 17; (with_reducible refine (path_IDs.calls kj10 _ _ t556 t559 t577 _ ?side1 ?side2 A22.out).mono ?_); (case side1 => refine (Kd.R_reads' (e := 56) (base := w.heap.size) (ok := fun k_ => (True ∧ some k_ ≠ (.slice Ao34 t571.length co34 : Value).ownBlock)) (n := t556.length) (c := co25) ?_).2.2; exact (by (with_reducible repeat (first | apply Kd.R_alloc | apply Kd.R_drewN | apply Kd.R_drew)); exact (Kd.R_mono (Kd.R_far (p := ⟨gb576, 1, none⟩) (Kd.R_far (p := ⟨gb576, 0, none⟩) (Kd.R_types HO558.out BK576.out (by decide)) (fun _ hk => hk.2) (.slice Ao34 t571.length co34)) (fun _ hk => hk.2) (.int .i64 t574)) (fun _ h_ => h_.1)))); (case side2 => exact (Kd.R_reads' HO558.out).2.1); rintro e w38 ⟨v578, rfl, ho0, hb⟩; have n0_ := Aside0.mk (Kd.R_below (by (with_reducible repeat (first | apply Kd.R_alloc | apply Kd.R_drewN | apply Kd.R_drew)); exact (Kd.R_mono (Kd.R_far (p := ⟨gb576, 1, none⟩) (Kd.R_far (p := ⟨gb576, 0, none⟩) (Kd.R_types HO558.out BK576.out (by decide)) (fun _ hk => hk.2) (.slice Ao34 t571.length co34)) (fun _ hk => hk.2) (.int .i64 t574)) (fun _ h_ => h_.1))) hb); have n1_ := Aside0.mk (Kd.R_elder' (by (with_reducible repeat (first | apply Kd.R_alloc | apply Kd.R_drewN | apply Kd.R_drew)); exact (Kd.R_mono (Kd.R_far (p := ⟨gb576, 1, none⟩) (Kd.R_far (p := ⟨gb576, 0, none⟩) (Kd.R_types HO570.out BK576.out (by decide)) (fun _ hk => hk.2) (.slice Ao34 t571.length co34)) (fun _ hk => hk.2) (.int .i64 t574)) (fun _ h_ => h_.1))) (Kd.R_base ho0) hb); have n2_ := Aside0.mk (Kd.R_below (by (with_reducible repeat (first | apply Kd.R_alloc | apply Kd.R_drewN | apply Kd.R_drew)); exact (Kd.R_mono (Kd.R_far (p := ⟨gb576, 1, none⟩) (Kd.R_far (p := ⟨gb576, 0, none⟩) (Kd.R_types HO573.out BK576.out (by decide)) (fun _ hk => hk.2) (.slice Ao34 t571.length co34)) (fun _ hk => hk.2) (.int .i64 t574)) (fun _ h_ => h_.1))) hb); have n3_ := Aside0.mk (Kd.R_lower (Kd.R_new' ho0 (Kd.R_lt (by (with_reducible repeat (first | apply Kd.R_alloc | apply Kd.R_drewN | apply Kd.R_drew)); exact (Kd.R_mono (Kd.R_far (p := ⟨gb576, 1, none⟩) (Kd.R_far (p := ⟨gb576, 0, none⟩) (Kd.R_types HO570.out BK576.out (by decide)) (fun _ hk => hk.2) (.slice Ao34 t571.length co34)) (fun _ hk => hk.2) (.int .i64 t574)) (fun _ h_ => h_.1))))) (below_size (by repeat (first | (with_reducible first | exact HB.out | apply below_alloc | apply pw_below_drewN | apply below_drew1 | refine below_set ?_ GE561.out | refine below_set ?_ GE576.out) | exact HB.out)))); have n4_ := Aside0.mk (blk_below (g := gb561) (o := .cells #[.slice Ao25 t556.length co25, .int .i64 t559] 27 (0, 0)) (by (with_reducible repeat (first | refine blk_drewN ?_ _ | refine blk_drew ?_ | refine blk_alloc ?_ _)); refine blk_far ?_ NB561_576.out _; (with_reducible repeat (first | refine blk_drewN ?_ _ | refine blk_drew ?_ | refine blk_alloc ?_ _)); refine blk_far ?_ NB561_576.out _; (with_reducible repeat (first | refine blk_drewN ?_ _ | refine blk_drew ?_ | refine blk_alloc ?_ _)); exact BK561.out) hb); have n5_ := Aside0.mk (blk_below (g := gb576) (o := .cells #[.slice Ao34 t571.length co34, .int .i64 t574] 27 (0, 0)) (by (with_reducible repeat (first | refine blk_drewN ?_ _ | refine blk_drew ?_ | refine blk_alloc ?_ _)); refine blk_put (cs := #[.slice Ao34 t571.length co34, .int .i64 0]) ?_ 1 _ rfl; (with_reducible repeat (first | refine blk_drewN ?_ _ | refine blk_drew ?_ | refine blk_alloc ?_ _)); refine blk_put (cs := #[.slice none 0 0, .int .i64 0]) ?_ 0 _ rfl; (with_reducible repeat (first | refine blk_drewN ?_ _ | refine blk_drew ?_ | refine blk_alloc ?_ _)); exact BK576.out) hb); have n6_ := Aside0.mk (below_step (by repeat (first | (with_reducible first | exact HB.out | apply below_alloc | apply pw_below_drewN | apply below_drew1 | refine below_set ?_ GE561.out | refine below_set ?_ GE576.out) | exact HB.out)) hb); clear HO558; clear HO570; clear HO573; clear BK561; clear BK576; clear HB; have HO558 := n0_; have HO570 := n1_; have HO573 := n2_; have HO579 := n3_; have BK561 := n4_; have BK576 := n5_; have HB := n6_; clear n0_ n1_ n2_ n3_ n4_ n5_ n6_; (try clear hb); (try clear hb2); (try clear hk); (try clear hi); (try clear ho0)))
              repeat (go_quiet (fail); try go_wp2)
              go_loopg [25] kj10 (fun kq v25 w' => ∃ (x25_2 : Int), v25 = .int .i64 x25_2 ∧ Aside0 (feluccalaw18_SpurBans.l0 kq l1 l3 t555 t575 t577 x25_2 t556 t559 t571 t574 = some r) ∧ Aside0 (kq ≤ kj10) ∧ Aside0 (Kd.R (Kd.int .i64) 3 w' w.heap.size (fun _ => True) v578 t577) ∧ Aside0 (Kd.R k56 56 w' w.heap.size (fun k_ => some k_ ≠ ((.slice Ao34 t571.length co34) : Value).ownBlock) (.slice Ao25 t556.length co25) t556) ∧ Aside0 (Kd.R k56 56 w' w.heap.size (fun k_ => some k_ ≠ ((.slice Ao25 t556.length co25) : Value).ownBlock) (.slice Ao34 t571.length co34) t571) ∧ Aside0 (w'.heap[gb561]? = some (.cells #[(.slice Ao25 t556.length co25), .int .i64 t559] 27 (0, 0))) ∧ Aside0 (w'.heap[gb576]? = some (.cells #[(.slice Ao34 t571.length co34), .int .i64 t574] 27 (0, 0))) ∧ Aside0 (Below w.heap.size w w'))
              case atStart => exact ⟨(0), (by first | rfl | (simp; done) | (simp [*]; done)), H', ⟨Nat.le_refl _⟩, ⟨by (with_reducible repeat (first | apply Kd.R_alloc | apply Kd.R_drewN | apply Kd.R_drew)); exact Kd.R_mono HO579.out (fun _ hk => trivial)⟩, ⟨by (with_reducible repeat (first | apply Kd.R_alloc | apply Kd.R_drewN | apply Kd.R_drew)); exact Kd.R_mono HO558.out (fun _ hk => hk.2)⟩, ⟨by (with_reducible repeat (first | apply Kd.R_alloc | apply Kd.R_drewN | apply Kd.R_drew)); exact Kd.R_mono HO573.out (fun _ hk => hk.2)⟩, ⟨by (with_reducible repeat (first | refine blk_drewN ?_ _ | refine blk_drew ?_ | refine blk_alloc ?_ _)); exact BK561.out⟩, ⟨by (with_reducible repeat (first | refine blk_drewN ?_ _ | refine blk_drew ?_ | refine blk_alloc ?_ _)); exact BK576.out⟩, ⟨by repeat (first | (with_reducible first | exact HB.out | apply below_alloc | apply pw_below_drewN | apply below_drew1 | refine below_set ?_ GE561.out | refine below_set ?_ GE576.out) | exact HB.out)⟩⟩
              case round =>
                clear H'
                try clear c1
                try clear c2
                try clear p2
                try clear c3
                try clear c7
                try clear c13
                try clear c13b0
                try clear c13b1
                try clear c14
                try clear c14b0
                try clear c14b1
                try clear c15
                try clear c15b0
                try clear c15b1
                try clear c16
                try clear c18
                try clear c19
                try clear c21
                try clear c35
                try clear hcz26_0
                try clear hcz26_1
                try clear hcz36_0
                try clear hcz36_1
                try clear hcz37_0
                try clear hcz37_1
                try clear hfz26_0
                try clear hfz26_1
                try clear hfz36_0
                try clear hfz36_1
                try clear hfz37_0
                try clear hfz37_1
                try clear p2
                obtain ⟨x25_2, rfl, HA, HK2, HO_24, HO_562000, HO_577000, BK561, BK576, HB⟩ := hrel
                cases gk with
                | zero => exact absurd HA.out (by simp [feluccalaw18_SpurBans.l0])
                | succ k2 =>
                  have H := HA.out
                  clear HA
                  simp only [feluccalaw18_SpurBans.l0] at H
                  by_cases c39 : x25_2 < (l3.length : Int)
                  · rw [if_pos c39] at H
                    have c39b0 : decide (x25_2 < (l3.length : Int)) = true := decide_eq_true c39
                    clear c39
                    by_cases c40 : (t577.length : Int) > (l1.length : Int)
                    · rw [if_pos c40] at H
                      have c40b0 : decide ((l1.length : Int) < (t577.length : Int)) = true := decide_eq_true c40
                      have c40b1 : decide (l1.length < t577.length) = true := decide_eq_true (Int.ofNat_lt.mp c40)
                      clear c40
                      by_cases c41 : 0 ≤ (l1.length : Int)
                      · rw [if_pos c41] at H
                        have c41b0 : decide (0 ≤ (l1.length : Int)) = true := decide_eq_true c41
                        have c41b1 : decide (0 ≤ l1.length) = true := decide_eq_true (by omega)
                        clear c41
                        by_cases c42 : (l1.length : Int) < (t577.length : Int)
                        · rw [if_pos c42] at H
                          have c42b0 : decide ((l1.length : Int) < (t577.length : Int)) = true := decide_eq_true c42
                          have c42b1 : decide (l1.length < t577.length) = true := decide_eq_true (Int.ofNat_lt.mp c42)
                          clear c42
                          by_cases c43 : 0 ≤ x25_2
                          · rw [if_pos c43] at H
                            have c43b0 : decide (0 ≤ x25_2) = true := decide_eq_true c43
                            clear c43
                            by_cases c44 : (rd t577 (l1.length : Int)) = (rd l3 x25_2)
                            · rw [if_pos c44] at H
                              have c44b0 : ((rd t577 (l1.length : Int)) == (rd l3 x25_2)) = true := beq_iff_eq.mpr c44
                              have c44b1 : ((rd t577 (l1.length : Int)) != (rd l3 x25_2)) = false := bne_eq_false_iff_eq.mpr c44
                              clear c44
                              by_cases c45 : t555 = true
                              · subst c45
                                have H1 : (if t575 = true then ((order_Less.f k2 t556 t559 t571 t574).bind fun t582 => (some t582)) else (some true)) = some r := by rw [if_pos rfl] at H; exact H
                                clear H
                                have H := H1
                                clear H1
                                by_cases c46 : t575 = true
                                · subst c46
                                  have H1 : ((order_Less.f k2 t556 t559 t571 t574).bind fun t582 => (some t582)) = some r := by rw [if_pos rfl] at H; exact H
                                  clear H
                                  have H := H1
                                  clear H1
                                  replace H := Option.bind_eq_some_iff.mp H
                                  obtain ⟨t582, A470, H⟩ := H
                                  replace H : (some t582) = some r := H
                                  have A47 := Aside0.mk A470
                                  clear A470
                                  obtain rfl := Option.some.inj H
                                  obtain ⟨Ao48, co48, eo48⟩ := Kd.R_slice HO_24.out
                                  subst eo48
                                  have p580 : 0 ≤ ((l1.length : Int) : Int) := of_decide_eq_true (by first | (with_reducible assumption) | assumption)
                                  have q580 : (l1.length : Int) < (t577.length : Int) := of_decide_eq_true (by first | (with_reducible assumption) | assumption)
                                  obtain ⟨ad580, e580, hx580_0⟩ := Kd.at_int (Kd.R_reads' HO_24.out).2.2 (l1.length : Int) p580 q580
                                  cases e580
                                  (try simp only [Go.IntWalk.toNatUp] at hx580_0)
                                  replace p580 := eq_true p580
                                  replace q580 := eq_true q580
                                  have p581 : 0 ≤ (x25_2 : Int) := of_decide_eq_true (by first | (with_reducible assumption) | assumption)
                                  have q581 : x25_2 < (l3.length : Int) := of_decide_eq_true (by first | (with_reducible assumption) | assumption)
                                  obtain ⟨ad581, e581, hx581_0⟩ := Kd.at_int HR3.out x25_2 p581 q581
                                  cases e581
                                  replace hx581_0 := (HB.out.cell (World.block_lt_of_cell? w _ hx581_0)).trans hx581_0
                                  replace p581 := eq_true p581
                                  replace q581 := eq_true q581
                                  have hnb49 := NB561_576.out
                                  have hnc49 := NB576_561.out
                                  have hcz50_0 : wr.cell? ⟨gb561, 0, none⟩ = some (.slice Ao25 t556.length co25) := (blk_cell BK561.out 0).trans rfl
                                  have hcz50_1 : wr.cell? ⟨gb561, 1, none⟩ = some (.int .i64 t559) := (blk_cell BK561.out 1).trans rfl
                                  have hfz50_0 := blk_frozen BK561.out 0
                                  have hfz50_1 := blk_frozen BK561.out 1
                                  have hcz51_0 : wr.cell? ⟨gb576, 0, none⟩ = some (.slice Ao34 t571.length co34) := (blk_cell BK576.out 0).trans rfl
                                  have hcz51_1 : wr.cell? ⟨gb576, 1, none⟩ = some (.int .i64 t574) := (blk_cell BK576.out 1).trans rfl
                                  have hfz51_0 := blk_frozen BK576.out 0
                                  have hfz51_1 := blk_frozen BK576.out 1
                                  go_wp2_with (first | (go_at_call 28; (with_reducible refine (order_Less.calls k2 _ _ t556 t559 _ _ t571 t574 t582 _ ?side1 ?side2 ?side3 ?side4 A47.out).mono ?_); (case side1 => repeat (first | exact (Kd.R_reads' HO_562000.out).2.2 | (with_reducible refine Kd.C_alloc ?_ _) | (with_reducible refine Kd.C_drewN ?_ _) | (with_reducible refine Kd.C_drew ?_))); (case side2 => exact (Kd.R_reads' HO_562000.out).2.1); (case side3 => repeat (first | exact (Kd.R_reads' HO_577000.out).2.2 | (with_reducible refine Kd.C_alloc ?_ _) | (with_reducible refine Kd.C_drewN ?_ _) | (with_reducible refine Kd.C_drew ?_))); (case side4 => exact (Kd.R_reads' HO_577000.out).2.1); rintro e w52 ⟨rfl, hb⟩; have n0_ := Aside0.mk (Kd.R_below (by (with_reducible repeat (first | apply Kd.R_alloc | apply Kd.R_drewN | apply Kd.R_drew)); exact HO_24.out) hb); have n1_ := Aside0.mk (Kd.R_below (by (with_reducible repeat (first | apply Kd.R_alloc | apply Kd.R_drewN | apply Kd.R_drew)); exact HO_562000.out) hb); have n2_ := Aside0.mk (Kd.R_below (by (with_reducible repeat (first | apply Kd.R_alloc | apply Kd.R_drewN | apply Kd.R_drew)); exact HO_577000.out) hb); have n3_ := Aside0.mk (blk_below (g := gb561) (o := .cells #[.slice Ao25 t556.length co25, .int .i64 t559] 27 (0, 0)) (by (with_reducible repeat (first | refine blk_drewN ?_ _ | refine blk_drew ?_ | refine blk_alloc ?_ _)); exact BK561.out) hb); have n4_ := Aside0.mk (blk_below (g := gb576) (o := .cells #[.slice Ao34 t571.length co34, .int .i64 t574] 27 (0, 0)) (by (with_reducible repeat (first | refine blk_drewN ?_ _ | refine blk_drew ?_ | refine blk_alloc ?_ _)); exact BK576.out) hb); have n5_ := Aside0.mk (below_step (by repeat (first | (with_reducible first | exact HB.out | apply below_alloc | apply pw_below_drewN | apply below_drew1 | refine below_set ?_ GE561.out | refine below_set ?_ GE576.out) | exact HB.out)) hb); clear HO_24; clear HO_562000; clear HO_577000; clear BK561; clear BK576; clear HB; have HO_24 := n0_; have HO_562000 := n1_; have HO_577000 := n2_; have BK561 := n3_; have BK576 := n4_; have HB := n5_; clear n0_ n1_ n2_ n3_ n4_ n5_; (try clear hb); (try clear hb2); (try clear hk); (try clear hi)))
                                  repeat (go_quiet (first | (go_at_call 28; (with_reducible refine (order_Less.calls k2 _ _ t556 t559 _ _ t571 t574 t582 _ ?side1 ?side2 ?side3 ?side4 A47.out).mono ?_); (case side1 => repeat (first | exact (Kd.R_reads' HO_562000.out).2.2 | (with_reducible refine Kd.C_alloc ?_ _) | (with_reducible refine Kd.C_drewN ?_ _) | (with_reducible refine Kd.C_drew ?_))); (case side2 => exact (Kd.R_reads' HO_562000.out).2.1); (case side3 => repeat (first | exact (Kd.R_reads' HO_577000.out).2.2 | (with_reducible refine Kd.C_alloc ?_ _) | (with_reducible refine Kd.C_drewN ?_ _) | (with_reducible refine Kd.C_drew ?_))); (case side4 => exact (Kd.R_reads' HO_577000.out).2.1); rintro e w52 ⟨rfl, hb⟩; have n0_ := Aside0.mk (Kd.R_below (by (with_reducible repeat (first | apply Kd.R_alloc | apply Kd.R_drewN | apply Kd.R_drew)); exact HO_24.out) hb); have n1_ := Aside0.mk (Kd.R_below (by (with_reducible repeat (first | apply Kd.R_alloc | apply Kd.R_drewN | apply Kd.R_drew)); exact HO_562000.out) hb); have n2_ := Aside0.mk (Kd.R_below (by (with_reducible repeat (first | apply Kd.R_alloc | apply Kd.R_drewN | apply Kd.R_drew)); exact HO_577000.out) hb); have n3_ := Aside0.mk (blk_below (g := gb561) (o := .cells #[.slice Ao25 t556.length co25, .int .i64 t559] 27 (0, 0)) (by (with_reducible repeat (first | refine blk_drewN ?_ _ | refine blk_drew ?_ | refine blk_alloc ?_ _)); exact BK561.out) hb); have n4_ := Aside0.mk (blk_below (g := gb576) (o := .cells #[.slice Ao34 t571.length co34, .int .i64 t574] 27 (0, 0)) (by (with_reducible repeat (first | refine blk_drewN ?_ _ | refine blk_drew ?_ | refine blk_alloc ?_ _)); exact BK576.out) hb); have n5_ := Aside0.mk (below_step (by repeat (first | (with_reducible first | exact HB.out | apply below_alloc | apply pw_below_drewN | apply below_drew1 | refine below_set ?_ GE561.out | refine below_set ?_ GE576.out) | exact HB.out)) hb); clear HO_24; clear HO_562000; clear HO_577000; clear BK561; clear BK576; clear HB; have HO_24 := n0_; have HO_562000 := n1_; have HO_577000 := n2_; have BK561 := n3_; have BK576 := n4_; have HB := n5_; clear n0_ n1_ n2_ n3_ n4_ n5_; (try clear hb); (try clear hb2); (try clear hk); (try clear hi))); try go_wp2_with (first | (go_at_call 28; (with_reducible refine (order_Less.calls k2 _ _ t556 t559 _ _ t571 t574 t582 _ ?side1 ?side2 ?side3 ?side4 A47.out).mono ?_); (case side1 => repeat (first | exact (Kd.R_reads' HO_562000.out).2.2 | (with_reducible refine Kd.C_alloc ?_ _) | (with_reducible refine Kd.C_drewN ?_ _) | (with_reducible refine Kd.C_drew ?_))); (case side2 => exact (Kd.R_reads' HO_562000.out).2.1); (case side3 => repeat (first | exact (Kd.R_reads' HO_577000.out).2.2 | (with_reducible refine Kd.C_alloc ?_ _) | (with_reducible refine Kd.C_drewN ?_ _) | (with_reducible refine Kd.C_drew ?_))); (case side4 => exact (Kd.R_reads' HO_577000.out).2.1); rintro e w52 ⟨rfl, hb⟩; have n0_ := Aside0.mk (Kd.R_below (by (with_reducible repeat (first | apply Kd.R_alloc | apply Kd.R_drewN | apply Kd.R_drew)); exact HO_24.out) hb); have n1_ := Aside0.mk (Kd.R_below (by (with_reducible repeat (first | apply Kd.R_alloc | apply Kd.R_drewN | apply Kd.R_drew)); exact HO_562000.out) hb); have n2_ := Aside0.mk (Kd.R_below (by (with_reducible repeat (first | apply Kd.R_alloc | apply Kd.R_drewN | apply Kd.R_drew)); exact HO_577000.out) hb); have n3_ := Aside0.mk (blk_below (g := gb561) (o := .cells #[.slice Ao25 t556.length co25, .int .i64 t559] 27 (0, 0)) (by (with_reducible repeat (first | refine blk_drewN ?_ _ | refine blk_drew ?_ | refine blk_alloc ?_ _)); exact BK561.out) hb); have n4_ := Aside0.mk (blk_below (g := gb576) (o := .cells #[.slice Ao34 t571.length co34, .int .i64 t574] 27 (0, 0)) (by (with_reducible repeat (first | refine blk_drewN ?_ _ | refine blk_drew ?_ | refine blk_alloc ?_ _)); exact BK576.out) hb); have n5_ := Aside0.mk (below_step (by repeat (first | (with_reducible first | exact HB.out | apply below_alloc | apply pw_below_drewN | apply below_drew1 | refine below_set ?_ GE561.out | refine below_set ?_ GE576.out) | exact HB.out)) hb); clear HO_24; clear HO_562000; clear HO_577000; clear BK561; clear BK576; clear HB; have HO_24 := n0_; have HO_562000 := n1_; have HO_577000 := n2_; have BK561 := n3_; have BK576 := n4_; have HB := n5_; clear n0_ n1_ n2_ n3_ n4_ n5_; (try clear hb); (try clear hb2); (try clear hk); (try clear hi))))
                                  go_ret
                                  exact ⟨by first | rfl | (simp [errW_none, errW_some] <;> rfl) | (simp [*, errW_none, errW_some] <;> rfl), by repeat (first | (with_reducible first | exact HB.out | apply below_alloc | apply pw_below_drewN | apply below_drew1 | refine below_set ?_ GE561.out | refine below_set ?_ GE576.out) | exact HB.out)⟩
                                · replace c46 := Bool.eq_false_iff.mpr c46
                                  subst c46
                                  have H1 : (some true) = some r := by rw [if_neg (show ¬ (false = true) by decide)] at H; exact H
                                  clear H
                                  have H := H1
                                  clear H1
                                  obtain rfl := Option.some.inj H
                                  obtain ⟨Ao53, co53, eo53⟩ := Kd.R_slice HO_24.out
                                  subst eo53
                                  have p580 : 0 ≤ ((l1.length : Int) : Int) := of_decide_eq_true (by first | (with_reducible assumption) | assumption)
                                  have q580 : (l1.length : Int) < (t577.length : Int) := of_decide_eq_true (by first | (with_reducible assumption) | assumption)
                                  obtain ⟨ad580, e580, hx580_0⟩ := Kd.at_int (Kd.R_reads' HO_24.out).2.2 (l1.length : Int) p580 q580
                                  cases e580
                                  (try simp only [Go.IntWalk.toNatUp] at hx580_0)
                                  replace p580 := eq_true p580
                                  replace q580 := eq_true q580
                                  have p581 : 0 ≤ (x25_2 : Int) := of_decide_eq_true (by first | (with_reducible assumption) | assumption)
                                  have q581 : x25_2 < (l3.length : Int) := of_decide_eq_true (by first | (with_reducible assumption) | assumption)
                                  obtain ⟨ad581, e581, hx581_0⟩ := Kd.at_int HR3.out x25_2 p581 q581
                                  cases e581
                                  replace hx581_0 := (HB.out.cell (World.block_lt_of_cell? w _ hx581_0)).trans hx581_0
                                  replace p581 := eq_true p581
                                  replace q581 := eq_true q581
                                  go_wp2
                                  repeat (go_quiet (fail); try go_wp2)
                                  go_ret
                                  exact ⟨by first | rfl | (simp [errW_none, errW_some] <;> rfl) | (simp [*, errW_none, errW_some] <;> rfl), by repeat (first | (with_reducible first | exact HB.out | apply below_alloc | apply pw_below_drewN | apply below_drew1 | refine below_set ?_ GE561.out | refine below_set ?_ GE576.out) | exact HB.out)⟩
                              · replace c45 := Bool.eq_false_iff.mpr c45
                                subst c45
                                have H1 : (some false) = some r := by rw [if_neg (show ¬ (false = true) by decide)] at H; exact H
                                clear H
                                have H := H1
                                clear H1
                                obtain rfl := Option.some.inj H
                                obtain ⟨Ao54, co54, eo54⟩ := Kd.R_slice HO_24.out
                                subst eo54
                                have p580 : 0 ≤ ((l1.length : Int) : Int) := of_decide_eq_true (by first | (with_reducible assumption) | assumption)
                                have q580 : (l1.length : Int) < (t577.length : Int) := of_decide_eq_true (by first | (with_reducible assumption) | assumption)
                                obtain ⟨ad580, e580, hx580_0⟩ := Kd.at_int (Kd.R_reads' HO_24.out).2.2 (l1.length : Int) p580 q580
                                cases e580
                                (try simp only [Go.IntWalk.toNatUp] at hx580_0)
                                replace p580 := eq_true p580
                                replace q580 := eq_true q580
                                have p581 : 0 ≤ (x25_2 : Int) := of_decide_eq_true (by first | (with_reducible assumption) | assumption)
                                have q581 : x25_2 < (l3.length : Int) := of_decide_eq_true (by first | (with_reducible assumption) | assumption)
                                obtain ⟨ad581, e581, hx581_0⟩ := Kd.at_int HR3.out x25_2 p581 q581
                                cases e581
                                replace hx581_0 := (HB.out.cell (World.block_lt_of_cell? w _ hx581_0)).trans hx581_0
                                replace p581 := eq_true p581
                                replace q581 := eq_true q581
                                go_wp2
                                repeat (go_quiet (fail); try go_wp2)
                                go_ret
                                exact ⟨by first | rfl | (simp [errW_none, errW_some] <;> rfl) | (simp [*, errW_none, errW_some] <;> rfl), by repeat (first | (with_reducible first | exact HB.out | apply below_alloc | apply pw_below_drewN | apply below_drew1 | refine below_set ?_ GE561.out | refine below_set ?_ GE576.out) | exact HB.out)⟩
                            · rw [if_neg c44] at H
                              have c44b0 : ((rd t577 (l1.length : Int)) == (rd l3 x25_2)) = false := beq_eq_false_iff_ne.mpr c44
                              have c44b1 : ((rd t577 (l1.length : Int)) != (rd l3 x25_2)) = true := bne_iff_ne.mpr c44
                              have H' := Aside0.mk H
                              clear H
                              obtain ⟨Ao55, co55, eo55⟩ := Kd.R_slice HO_24.out
                              subst eo55
                              have p580 : 0 ≤ ((l1.length : Int) : Int) := of_decide_eq_true (by first | (with_reducible assumption) | assumption)
                              have q580 : (l1.length : Int) < (t577.length : Int) := of_decide_eq_true (by first | (with_reducible assumption) | assumption)
                              obtain ⟨ad580, e580, hx580_0⟩ := Kd.at_int (Kd.R_reads' HO_24.out).2.2 (l1.length : Int) p580 q580
                              cases e580
                              (try simp only [Go.IntWalk.toNatUp] at hx580_0)
                              replace p580 := eq_true p580
                              replace q580 := eq_true q580
                              have p581 : 0 ≤ (x25_2 : Int) := of_decide_eq_true (by first | (with_reducible assumption) | assumption)
                              have q581 : x25_2 < (l3.length : Int) := of_decide_eq_true (by first | (with_reducible assumption) | assumption)
                              obtain ⟨ad581, e581, hx581_0⟩ := Kd.at_int HR3.out x25_2 p581 q581
                              cases e581
                              replace hx581_0 := (HB.out.cell (World.block_lt_of_cell? w _ hx581_0)).trans hx581_0
                              replace p581 := eq_true p581
                              replace q581 := eq_true q581
                              go_wp2
                              repeat (go_quiet (fail); try go_wp2)
                              go_roundg k2
                              case measure => have := HJ10.out; have := HK2.out; omega
                              case rel => exact ⟨(wrap64 (x25_2 + 1)), (by first | rfl | (simp; done) | (simp [*]; done)), H', ⟨by have := HJ10.out; have := HK2.out; omega⟩, ⟨by (with_reducible repeat (first | apply Kd.R_alloc | apply Kd.R_drewN | apply Kd.R_drew)); exact HO_24.out⟩, ⟨by (with_reducible repeat (first | apply Kd.R_alloc | apply Kd.R_drewN | apply Kd.R_drew)); exact HO_562000.out⟩, ⟨by (with_reducible repeat (first | apply Kd.R_alloc | apply Kd.R_drewN | apply Kd.R_drew)); exact HO_577000.out⟩, ⟨by (with_reducible repeat (first | refine blk_drewN ?_ _ | refine blk_drew ?_ | refine blk_alloc ?_ _)); exact BK561.out⟩, ⟨by (with_reducible repeat (first | refine blk_drewN ?_ _ | refine blk_drew ?_ | refine blk_alloc ?_ _)); exact BK576.out⟩, ⟨by repeat (first | (with_reducible first | exact HB.out | apply below_alloc | apply pw_below_drewN | apply below_drew1 | refine below_set ?_ GE561.out | refine below_set ?_ GE576.out) | exact HB.out)⟩⟩
                          · rw [if_neg c43] at H
                            exact absurd H (by simp)
                        · rw [if_neg c42] at H
                          exact absurd H (by simp)
                      · rw [if_neg c41] at H
                        exact absurd H (by simp)
                    · rw [if_neg c40] at H
                      have c40b0 : decide ((l1.length : Int) < (t577.length : Int)) = false := decide_eq_false c40
                      have c40b1 : decide (l1.length < t577.length) = false := decide_eq_false (fun h => c40 (Int.ofNat_lt.mpr h))
                      clear c40
                      have H' := Aside0.mk H
                      clear H
                      obtain ⟨Ao56, co56, eo56⟩ := Kd.R_slice HO_24.out
                      subst eo56
                      go_wp2
                      repeat (go_quiet (fail); try go_wp2)
                      go_roundg k2
                      case measure => have := HJ10.out; have := HK2.out; omega
                      case rel => exact ⟨(wrap64 (x25_2 + 1)), (by first | rfl | (simp; done) | (simp [*]; done)), H', ⟨by have := HJ10.out; have := HK2.out; omega⟩, ⟨by (with_reducible repeat (first | apply Kd.R_alloc | apply Kd.R_drewN | apply Kd.R_drew)); exact HO_24.out⟩, ⟨by (with_reducible repeat (first | apply Kd.R_alloc | apply Kd.R_drewN | apply Kd.R_drew)); exact HO_562000.out⟩, ⟨by (with_reducible repeat (first | apply Kd.R_alloc | apply Kd.R_drewN | apply Kd.R_drew)); exact HO_577000.out⟩, ⟨by (with_reducible repeat (first | refine blk_drewN ?_ _ | refine blk_drew ?_ | refine blk_alloc ?_ _)); exact BK561.out⟩, ⟨by (with_reducible repeat (first | refine blk_drewN ?_ _ | refine blk_drew ?_ | refine blk_alloc ?_ _)); exact BK576.out⟩, ⟨by repeat (first | (with_reducible first | exact HB.out | apply below_alloc | apply pw_below_drewN | apply below_drew1 | refine below_set ?_ GE561.out | refine below_set ?_ GE576.out) | exact HB.out)⟩⟩
                  · rw [if_neg c39] at H
                    have c39b0 : decide (x25_2 < (l3.length : Int)) = false := decide_eq_false c39
                    clear c39
                    by_cases c57 : t555 = true
                    · subst c57
                      have H1 : (if t575 = true then ((path_Same.f k2 t556 t559 t571 t574).bind fun t583 => (some t583)) else (some false)) = some r := by rw [if_pos rfl] at H; exact H
                      clear H
                      have H := H1
                      clear H1
                      by_cases c58 : t575 = true
                      · subst c58
                        have H1 : ((path_Same.f k2 t556 t559 t571 t574).bind fun t583 => (some t583)) = some r := by rw [if_pos rfl] at H; exact H
                        clear H
                        have H := H1
                        clear H1
                        replace H := Option.bind_eq_some_iff.mp H
                        obtain ⟨t583, A590, H⟩ := H
                        replace H : (some t583) = some r := H
                        have A59 := Aside0.mk A590
                        clear A590
                        obtain rfl := Option.some.inj H
                        have hnb60 := NB561_576.out
                        have hnc60 := NB576_561.out
                        have hcz61_0 : wr.cell? ⟨gb561, 0, none⟩ = some (.slice Ao25 t556.length co25) := (blk_cell BK561.out 0).trans rfl
                        have hcz61_1 : wr.cell? ⟨gb561, 1, none⟩ = some (.int .i64 t559) := (blk_cell BK561.out 1).trans rfl
                        have hfz61_0 := blk_frozen BK561.out 0
                        have hfz61_1 := blk_frozen BK561.out 1
                        have hcz62_0 : wr.cell? ⟨gb576, 0, none⟩ = some (.slice Ao34 t571.length co34) := (blk_cell BK576.out 0).trans rfl
                        have hcz62_1 : wr.cell? ⟨gb576, 1, none⟩ = some (.int .i64 t574) := (blk_cell BK576.out 1).trans rfl
                        have hfz62_0 := blk_frozen BK576.out 0
                        have hfz62_1 := blk_frozen BK576.out 1
                        go_wp2_with (first | (go_at_call 18; (with_reducible refine (path_Same.calls k2 _ _ t556 t559 _ _ t571 t574 t583 _ ?side1 ?side2 ?side3 ?side4 A59.out).mono ?_); (case side1 => repeat (first | exact (Kd.R_reads' HO_562000.out).2.2 | (with_reducible refine Kd.C_alloc ?_ _) | (with_reducible refine Kd.C_drewN ?_ _) | (with_reducible refine Kd.C_drew ?_))); (case side2 => exact (Kd.R_reads' HO_562000.out).2.1); (case side3 => repeat (first | exact (Kd.R_reads' HO_577000.out).2.2 | (with_reducible refine Kd.C_alloc ?_ _) | (with_reducible refine Kd.C_drewN ?_ _) | (with_reducible refine Kd.C_drew ?_))); (case side4 => exact (Kd.R_reads' HO_577000.out).2.1); rintro e w63 ⟨rfl, hb⟩; have n0_ := Aside0.mk (Kd.R_below (by (with_reducible repeat (first | apply Kd.R_alloc | apply Kd.R_drewN | apply Kd.R_drew)); exact HO_24.out) hb); have n1_ := Aside0.mk (Kd.R_below (by (with_reducible repeat (first | apply Kd.R_alloc | apply Kd.R_drewN | apply Kd.R_drew)); exact HO_562000.out) hb); have n2_ := Aside0.mk (Kd.R_below (by (with_reducible repeat (first | apply Kd.R_alloc | apply Kd.R_drewN | apply Kd.R_drew)); exact HO_577000.out) hb); have n3_ := Aside0.mk (blk_below (g := gb561) (o := .cells #[.slice Ao25 t556.length co25, .int .i64 t559] 27 (0, 0)) (by (with_reducible repeat (first | refine blk_drewN ?_ _ | refine blk_drew ?_ | refine blk_alloc ?_ _)); exact BK561.out) hb); have n4_ := Aside0.mk (blk_below (g := gb576) (o := .cells #[.slice Ao34 t571.length co34, .int .i64 t574] 27 (0, 0)) (by (with_reducible repeat (first | refine blk_drewN ?_ _ | refine blk_drew ?_ | refine blk_alloc ?_ _)); exact BK576.out) hb); have n5_ := Aside0.mk (below_step (by repeat (first | (with_reducible first | exact HB.out | apply below_alloc | apply pw_below_drewN | apply below_drew1 | refine below_set ?_ GE561.out | refine below_set ?_ GE576.out) | exact HB.out)) hb); clear HO_24; clear HO_562000; clear HO_577000; clear BK561; clear BK576; clear HB; have HO_24 := n0_; have HO_562000 := n1_; have HO_577000 := n2_; have BK561 := n3_; have BK576 := n4_; have HB := n5_; clear n0_ n1_ n2_ n3_ n4_ n5_; (try clear hb); (try clear hb2); (try clear hk); (try clear hi)))
                        repeat (go_quiet (first | (go_at_call 18; (with_reducible refine (path_Same.calls k2 _ _ t556 t559 _ _ t571 t574 t583 _ ?side1 ?side2 ?side3 ?side4 A59.out).mono ?_); (case side1 => repeat (first | exact (Kd.R_reads' HO_562000.out).2.2 | (with_reducible refine Kd.C_alloc ?_ _) | (with_reducible refine Kd.C_drewN ?_ _) | (with_reducible refine Kd.C_drew ?_))); (case side2 => exact (Kd.R_reads' HO_562000.out).2.1); (case side3 => repeat (first | exact (Kd.R_reads' HO_577000.out).2.2 | (with_reducible refine Kd.C_alloc ?_ _) | (with_reducible refine Kd.C_drewN ?_ _) | (with_reducible refine Kd.C_drew ?_))); (case side4 => exact (Kd.R_reads' HO_577000.out).2.1); rintro e w63 ⟨rfl, hb⟩; have n0_ := Aside0.mk (Kd.R_below (by (with_reducible repeat (first | apply Kd.R_alloc | apply Kd.R_drewN | apply Kd.R_drew)); exact HO_24.out) hb); have n1_ := Aside0.mk (Kd.R_below (by (with_reducible repeat (first | apply Kd.R_alloc | apply Kd.R_drewN | apply Kd.R_drew)); exact HO_562000.out) hb); have n2_ := Aside0.mk (Kd.R_below (by (with_reducible repeat (first | apply Kd.R_alloc | apply Kd.R_drewN | apply Kd.R_drew)); exact HO_577000.out) hb); have n3_ := Aside0.mk (blk_below (g := gb561) (o := .cells #[.slice Ao25 t556.length co25, .int .i64 t559] 27 (0, 0)) (by (with_reducible repeat (first | refine blk_drewN ?_ _ | refine blk_drew ?_ | refine blk_alloc ?_ _)); exact BK561.out) hb); have n4_ := Aside0.mk (blk_below (g := gb576) (o := .cells #[.slice Ao34 t571.length co34, .int .i64 t574] 27 (0, 0)) (by (with_reducible repeat (first | refine blk_drewN ?_ _ | refine blk_drew ?_ | refine blk_alloc ?_ _)); exact BK576.out) hb); have n5_ := Aside0.mk (below_step (by repeat (first | (with_reducible first | exact HB.out | apply below_alloc | apply pw_below_drewN | apply below_drew1 | refine below_set ?_ GE561.out | refine below_set ?_ GE576.out) | exact HB.out)) hb); clear HO_24; clear HO_562000; clear HO_577000; clear BK561; clear BK576; clear HB; have HO_24 := n0_; have HO_562000 := n1_; have HO_577000 := n2_; have BK561 := n3_; have BK576 := n4_; have HB := n5_; clear n0_ n1_ n2_ n3_ n4_ n5_; (try clear hb); (try clear hb2); (try clear hk); (try clear hi))); try go_wp2_with (first | (go_at_call 18; (with_reducible refine (path_Same.calls k2 _ _ t556 t559 _ _ t571 t574 t583 _ ?side1 ?side2 ?side3 ?side4 A59.out).mono ?_); (case side1 => repeat (first | exact (Kd.R_reads' HO_562000.out).2.2 | (with_reducible refine Kd.C_alloc ?_ _) | (with_reducible refine Kd.C_drewN ?_ _) | (with_reducible refine Kd.C_drew ?_))); (case side2 => exact (Kd.R_reads' HO_562000.out).2.1); (case side3 => repeat (first | exact (Kd.R_reads' HO_577000.out).2.2 | (with_reducible refine Kd.C_alloc ?_ _) | (with_reducible refine Kd.C_drewN ?_ _) | (with_reducible refine Kd.C_drew ?_))); (case side4 => exact (Kd.R_reads' HO_577000.out).2.1); rintro e w63 ⟨rfl, hb⟩; have n0_ := Aside0.mk (Kd.R_below (by (with_reducible repeat (first | apply Kd.R_alloc | apply Kd.R_drewN | apply Kd.R_drew)); exact HO_24.out) hb); have n1_ := Aside0.mk (Kd.R_below (by (with_reducible repeat (first | apply Kd.R_alloc | apply Kd.R_drewN | apply Kd.R_drew)); exact HO_562000.out) hb); have n2_ := Aside0.mk (Kd.R_below (by (with_reducible repeat (first | apply Kd.R_alloc | apply Kd.R_drewN | apply Kd.R_drew)); exact HO_577000.out) hb); have n3_ := Aside0.mk (blk_below (g := gb561) (o := .cells #[.slice Ao25 t556.length co25, .int .i64 t559] 27 (0, 0)) (by (with_reducible repeat (first | refine blk_drewN ?_ _ | refine blk_drew ?_ | refine blk_alloc ?_ _)); exact BK561.out) hb); have n4_ := Aside0.mk (blk_below (g := gb576) (o := .cells #[.slice Ao34 t571.length co34, .int .i64 t574] 27 (0, 0)) (by (with_reducible repeat (first | refine blk_drewN ?_ _ | refine blk_drew ?_ | refine blk_alloc ?_ _)); exact BK576.out) hb); have n5_ := Aside0.mk (below_step (by repeat (first | (with_reducible first | exact HB.out | apply below_alloc | apply pw_below_drewN | apply below_drew1 | refine below_set ?_ GE561.out | refine below_set ?_ GE576.out) | exact HB.out)) hb); clear HO_24; clear HO_562000; clear HO_577000; clear BK561; clear BK576; clear HB; have HO_24 := n0_; have HO_562000 := n1_; have HO_577000 := n2_; have BK561 := n3_; have BK576 := n4_; have HB := n5_; clear n0_ n1_ n2_ n3_ n4_ n5_; (try clear hb); (try clear hb2); (try clear hk); (try clear hi))))
                        go_ret
                        exact ⟨by first | rfl | (simp [errW_none, errW_some] <;> rfl) | (simp [*, errW_none, errW_some] <;> rfl), by repeat (first | (with_reducible first | exact HB.out | apply below_alloc | apply pw_below_drewN | apply below_drew1 | refine below_set ?_ GE561.out | refine below_set ?_ GE576.out) | exact HB.out)⟩
                      · replace c58 := Bool.eq_false_iff.mpr c58
                        subst c58
                        have H1 : (some false) = some r := by rw [if_neg (show ¬ (false = true) by decide)] at H; exact H
                        clear H
                        have H := H1
                        clear H1
                        obtain rfl := Option.some.inj H
                        go_wp2
                        repeat (go_quiet (fail); try go_wp2)
                        go_ret
                        exact ⟨by first | rfl | (simp [errW_none, errW_some] <;> rfl) | (simp [*, errW_none, errW_some] <;> rfl), by repeat (first | (with_reducible first | exact HB.out | apply below_alloc | apply pw_below_drewN | apply below_drew1 | refine below_set ?_ GE561.out | refine below_set ?_ GE576.out) | exact HB.out)⟩
                    · replace c57 := Bool.eq_false_iff.mpr c57
                      subst c57
                      have H1 : (some false) = some r := by rw [if_neg (show ¬ (false = true) by decide)] at H; exact H
                      clear H
                      have H := H1
                      clear H1
                      obtain rfl := Option.some.inj H
                      go_wp2
                      repeat (go_quiet (fail); try go_wp2)
                      go_ret
                      exact ⟨by first | rfl | (simp [errW_none, errW_some] <;> rfl) | (simp [*, errW_none, errW_some] <;> rfl), by repeat (first | (with_reducible first | exact HB.out | apply below_alloc | apply pw_below_drewN | apply below_drew1 | refine below_set ?_ GE561.out | refine below_set ?_ GE576.out) | exact HB.out)⟩
            · replace c21 := Bool.eq_false_iff.mpr c21
              subst c21
              have H1 : (if t555 = true then (some (!t575)) else (some false)) = some r := by rw [if_neg (show ¬ (false = true) by decide)] at H; exact H
              clear H
              have H := H1
              clear H1
              by_cases c64 : t555 = true
              · subst c64
                have H1 : (some (!t575)) = some r := by rw [if_pos rfl] at H; exact H
                clear H
                have H := H1
                clear H1
                obtain rfl := Option.some.inj H
                go_wp2_with (first | (go_at_call 25; (with_reducible refine (spur_Route.calls _ _ l0 _ _ l1 _ _ l2 a4 a5 a6 a7 a8 t556 t559 false _ ?side1 ?side2 ?side3 ?side4 ?side5 ?side6 A17.out).mono ?_); (case side1 => repeat (first | exact (Kd.C_below HR0.out HB.out) | (with_reducible refine Kd.C_alloc ?_ _) | (with_reducible refine Kd.C_drewN ?_ _) | (with_reducible refine Kd.C_drew ?_))); (case side2 => exact HC0.out); (case side3 => repeat (first | exact (Kd.C_below HR1.out HB.out) | (with_reducible refine Kd.C_alloc ?_ _) | (with_reducible refine Kd.C_drewN ?_ _) | (with_reducible refine Kd.C_drew ?_))); (case side4 => exact HC1.out); (case side5 => repeat (first | exact (Kd.C_below HR2.out HB.out) | (with_reducible refine Kd.C_alloc ?_ _) | (with_reducible refine Kd.C_drewN ?_ _) | (with_reducible refine Kd.C_drew ?_))); (case side6 => exact HC2.out); rintro e w65 ⟨v557, rfl, ho0, hb⟩; have n0_ := Aside0.mk (Kd.R_lower ho0 (below_size (by repeat (first | (with_reducible first | exact HB.out | apply below_alloc | apply pw_below_drewN | apply below_drew1) | exact HB.out)))); have n1_ := Aside0.mk (below_step (by repeat (first | (with_reducible first | exact HB.out | apply below_alloc | apply pw_below_drewN | apply below_drew1) | exact HB.out)) hb); clear HB; have HO558 := n0_; have HB := n1_; clear n0_ n1_; (try clear hb); (try clear hb2); (try clear hk); (try clear hi); (try clear ho0)) | ((with_reducible refine gate_dst (N := 20) rfl ?_); (try (refine gate_guard (by rfl) ?_; dsimp only)); refine box_event ?hg (N := 20) ?hd (cs := #[.slice none 0 0, .int .i64 0]) (t := 27) ?hr ?_; (case hd => rfl); (case hg => rfl); (case hr => first | (go_simp; done) | (go_simp; rfl)); intro gb561 hg w66 hbox hb; have n0_ := Aside0.mk (Kd.R_below (by (with_reducible repeat (first | apply Kd.R_alloc | apply Kd.R_drewN | apply Kd.R_drew)); exact HO558.out) hb); have n1_ := Aside0.mk (below_step (by repeat (first | (with_reducible first | exact HB.out | apply below_alloc | apply pw_below_drewN | apply below_drew1) | exact HB.out)) hb); have n2_ := Aside0.mk (hbox); have n3_ := Aside0.mk ((by rw [hg]; exact (below_size (by repeat (first | (with_reducible first | exact HB.out | apply below_alloc | apply pw_below_drewN | apply below_drew1) | exact HB.out))) : w.heap.size ≤ gb561)); have n4_ := Aside0.mk ((by rw [hg]; exact (below_size (by repeat (first | (with_reducible first | exact HB.out | apply below_alloc | apply pw_below_drewN | apply below_drew1) | exact HB.out))) : w.heap.size ≤ gb561)); clear HO558; clear HB; have HO558 := n0_; have HB := n1_; have BK561 := n2_; have GW561 := n3_; have GE561 := n4_; clear n0_ n1_ n2_ n3_ n4_; clear hb hbox hg; obtain ⟨Ao67, co67, eo67⟩ := Kd.R_slice HO558.out; subst eo67; have hcz68_0 : w66.cell? ⟨gb561, 0, none⟩ = some (.slice none 0 0) := (blk_cell BK561.out 0).trans rfl; have hcz68_1 : w66.cell? ⟨gb561, 1, none⟩ = some (.int .i64 0) := (blk_cell BK561.out 1).trans rfl; have hfz68_0 := blk_frozen BK561.out 0; have hfz68_1 := blk_frozen BK561.out 1) | ((with_reducible refine gate_dst (N := 61) rfl ?_); (try (refine gate_guard (by rfl) ?_; dsimp only)); refine Kd.R_lit (Kd.int .i64) _ 3 ?hg (N := 61) ?hd (xs := ([] : List Int)) (inner := []) (ok := fun _ => True) (okp := fun _ => True) ?hr ?hp (fun _ hk => hk) trivial (Below.refl _ _) (Nat.le_refl _) (by simp) ?_; (case hd => rfl); (case hg => rfl); (case hr => first | (go_simp; done) | (go_simp; rfl)); (case hp => exact (Reps.none _ _)); intro v563 w69 ho70 hb hg_ hnew_; clear hg_ hnew_; (first | rw [← Ny562.out] at ho70 | (simp only [Int.reduceToNat] at ho70; rw [← Ny562.out] at ho70)); have n0_ := Aside0.mk (Kd.R_below (by (with_reducible repeat (first | apply Kd.R_alloc | apply Kd.R_drewN | apply Kd.R_drew)); exact (Kd.R_mono (Kd.R_far (p := ⟨gb561, 1, none⟩) (Kd.R_far (p := ⟨gb561, 0, none⟩) (Kd.R_types HO558.out BK561.out (by decide)) (fun _ hk => hk.2) (.slice Ao67 t556.length co67)) (fun _ hk => hk.2) (.int .i64 t559)) (fun _ h_ => h_.1))) hb); have n1_ := Aside0.mk (Kd.R_lower ho70 (below_size (by repeat (first | (with_reducible first | exact HB.out | apply below_alloc | apply pw_below_drewN | apply below_drew1 | refine below_set ?_ GE561.out) | exact HB.out)))); have n2_ := Aside0.mk (blk_below (g := gb561) (o := .cells #[.slice Ao67 t556.length co67, .int .i64 t559] 27 (0, 0)) (by (with_reducible repeat (first | refine blk_drewN ?_ _ | refine blk_drew ?_ | refine blk_alloc ?_ _)); refine blk_put (cs := #[.slice Ao67 t556.length co67, .int .i64 0]) ?_ 1 _ rfl; (with_reducible repeat (first | refine blk_drewN ?_ _ | refine blk_drew ?_ | refine blk_alloc ?_ _)); refine blk_put (cs := #[.slice none 0 0, .int .i64 0]) ?_ 0 _ rfl; (with_reducible repeat (first | refine blk_drewN ?_ _ | refine blk_drew ?_ | refine blk_alloc ?_ _)); exact BK561.out) hb); have n3_ := Aside0.mk (below_step (by repeat (first | (with_reducible first | exact HB.out | apply below_alloc | apply pw_below_drewN | apply below_drew1 | refine below_set ?_ GE561.out) | exact HB.out)) hb); clear HO558; clear BK561; clear HB; have HO558 := n0_; have HO564 := n1_; have BK561 := n2_; have HB := n3_; clear n0_ n1_ n2_ n3_; clear hb ho70) | ((with_reducible refine gate_builtin (b := .append) (xs := #[.tmp 61, .tmp 62]) rfl ?_); (try (refine gate_guard (by rfl) ?_; dsimp only)); at_builtin; refine Kd.R_append_rows (Kd.int .i64) (w0 := w) w.heap.size rfl (.tmp 61) (.tmp 62) 23 3 (.int .i64 0) 8 rfl Try.underlying23 info3 rfl (by decide) (by omega) v563 y562 l2 _ _ _ (fun _ => True) (fun _ => False) rfl rfl ?aO ?aR (fun _ _ h => h) (fun _ h => h.elim) ?aF ?aB ?aS ?aL ?_; (case aR => repeat (first | exact (Kd.C_below HR2.out HB.out) | (with_reducible refine Kd.C_alloc ?_ _) | (with_reducible refine Kd.C_drewN ?_ _) | (with_reducible refine Kd.C_drew ?_))); (case aB => exact (by repeat (first | (with_reducible first | exact HB.out | apply below_alloc | apply pw_below_drewN | apply below_drew1 | refine below_set ?_ GE561.out) | exact HB.out))); (case aF => exact (fun _ _ => trivial)); (case aO => exact (by (with_reducible repeat (first | apply Kd.R_alloc | apply Kd.R_drewN | apply Kd.R_drew)); exact HO564.out)); (case aS => exact (below_size (by repeat (first | (with_reducible first | exact HB.out | apply below_alloc | apply pw_below_drewN | apply below_drew1 | refine below_set ?_ GE561.out) | exact HB.out)))); (case aL => have := LMc18.out; omega); intro v566 w71 ho hb hg hat; rw [← Ny565.out] at ho; have n0_ := Aside0.mk (Kd.R_over' (by (with_reducible repeat (first | apply Kd.R_alloc | apply Kd.R_drewN | apply Kd.R_drew)); exact HO558.out) (Kd.R_typed (by (with_reducible repeat (first | apply Kd.R_alloc | apply Kd.R_drewN | apply Kd.R_drew)); exact HO564.out)) (by decide) hg); have n1_ := Aside0.mk (blk_grown (g := gb561) (o := .cells #[.slice Ao67 t556.length co67, .int .i64 t559] 27 (0, 0)) (by (with_reducible repeat (first | refine blk_drewN ?_ _ | refine blk_drew ?_ | refine blk_alloc ?_ _)); exact BK561.out) hg (Kd.R_ne HO564.out BK561.out (by decide))); have n2_ := Aside0.mk (hb); have n3_ := Aside0.mk (ho); clear HO558; clear BK561; clear HB; clear HO564; have HO558 := n0_; have BK561 := n1_; have HB := n2_; have HO567 := n3_; clear n0_ n1_ n2_ n3_; clear ho hb hg hat) | ((with_reducible refine gate_builtin (b := .append) (xs := #[.tmp 63, .tmp 64]) rfl ?_); (try (refine gate_guard (by rfl) ?_; dsimp only)); at_builtin; refine Kd.R_append_rows (Kd.int .i64) (w0 := w) w.heap.size rfl (.tmp 63) (.tmp 64) 23 3 (.int .i64 0) 8 rfl Try.underlying23 info3 rfl (by decide) (by omega) v566 y565 l3 _ _ _ (fun _ => True) (fun _ => False) rfl rfl ?aO ?aR (fun _ _ h => h) (fun _ h => h.elim) ?aF ?aB ?aS ?aL ?_; (case aR => repeat (first | exact (Kd.C_below HR3.out HB.out) | (with_reducible refine Kd.C_alloc ?_ _) | (with_reducible refine Kd.C_drewN ?_ _) | (with_reducible refine Kd.C_drew ?_))); (case aB => exact (by repeat (first | (with_reducible first | exact HB.out | apply below_alloc | apply pw_below_drewN | apply below_drew1 | refine below_set ?_ GE561.out) | exact HB.out))); (case aF => exact (fun _ _ => trivial)); (case aO => exact (by (with_reducible repeat (first | apply Kd.R_alloc | apply Kd.R_drewN | apply Kd.R_drew)); exact HO567.out)); (case aS => exact (below_size (by repeat (first | (with_reducible first | exact HB.out | apply below_alloc | apply pw_below_drewN | apply below_drew1 | refine below_set ?_ GE561.out) | exact HB.out)))); (case aL => have := LMc19.out; omega); intro v569 w72 ho hb hg hat; rw [← Ny568.out] at ho; have n0_ := Aside0.mk (Kd.R_over' (by (with_reducible repeat (first | apply Kd.R_alloc | apply Kd.R_drewN | apply Kd.R_drew)); exact HO558.out) (Kd.R_typed (by (with_reducible repeat (first | apply Kd.R_alloc | apply Kd.R_drewN | apply Kd.R_drew)); exact HO567.out)) (by decide) hg); have n1_ := Aside0.mk (blk_grown (g := gb561) (o := .cells #[.slice Ao67 t556.length co67, .int .i64 t559] 27 (0, 0)) (by (with_reducible repeat (first | refine blk_drewN ?_ _ | refine blk_drew ?_ | refine blk_alloc ?_ _)); exact BK561.out) hg (Kd.R_ne HO567.out BK561.out (by decide))); have n2_ := Aside0.mk (hb); have n3_ := Aside0.mk (ho); clear HO558; clear BK561; clear HB; clear HO567; have HO558 := n0_; have BK561 := n1_; have HB := n2_; have HO570 := n3_; clear n0_ n1_ n2_ n3_; clear ho hb hg hat; obtain ⟨Ao73, co73, eo73⟩ := Kd.R_slice HO570.out; subst eo73) | (go_at_call 25; (with_reducible refine (spur_Route.calls _ _ l0 _ _ l1 _ _ y568 a4 a5 a6 a7 a8 t571 t574 t575 _ ?side1 ?side2 ?side3 ?side4 ?side5 ?side6 A20.out).mono ?_); (case side1 => repeat (first | exact (Kd.C_below HR0.out HB.out) | (with_reducible refine Kd.C_alloc ?_ _) | (with_reducible refine Kd.C_drewN ?_ _) | (with_reducible refine Kd.C_drew ?_))); (case side2 => exact HC0.out); (case side3 => repeat (first | exact (Kd.C_below HR1.out HB.out) | (with_reducible refine Kd.C_alloc ?_ _) | (with_reducible refine Kd.C_drewN ?_ _) | (with_reducible refine Kd.C_drew ?_))); (case side4 => exact HC1.out); (case side5 => repeat (first | exact (Kd.R_reads' HO570.out).2.2 | (with_reducible refine Kd.C_alloc ?_ _) | (with_reducible refine Kd.C_drewN ?_ _) | (with_reducible refine Kd.C_drew ?_))); (case side6 => exact (Kd.R_reads' HO570.out).2.1); rintro e w74 ⟨v572, rfl, ho0, hb⟩; have n0_ := Aside0.mk (Kd.R_elder' (by (with_reducible repeat (first | apply Kd.R_alloc | apply Kd.R_drewN | apply Kd.R_drew)); exact HO558.out) (Kd.R_base ho0) hb); have n1_ := Aside0.mk (Kd.R_below (by (with_reducible repeat (first | apply Kd.R_alloc | apply Kd.R_drewN | apply Kd.R_drew)); exact HO570.out) hb); have n2_ := Aside0.mk (Kd.R_lower (Kd.R_new' ho0 (Kd.R_lt (by (with_reducible repeat (first | apply Kd.R_alloc | apply Kd.R_drewN | apply Kd.R_drew)); exact HO558.out))) (below_size (by repeat (first | (with_reducible first | exact HB.out | apply below_alloc | apply pw_below_drewN | apply below_drew1 | refine below_set ?_ GE561.out) | exact HB.out)))); have n3_ := Aside0.mk (blk_below (g := gb561) (o := .cells #[.slice Ao67 t556.length co67, .int .i64 t559] 27 (0, 0)) (by (with_reducible repeat (first | refine blk_drewN ?_ _ | refine blk_drew ?_ | refine blk_alloc ?_ _)); exact BK561.out) hb); have n4_ := Aside0.mk (below_step (by repeat (first | (with_reducible first | exact HB.out | apply below_alloc | apply pw_below_drewN | apply below_drew1 | refine below_set ?_ GE561.out) | exact HB.out)) hb); clear HO558; clear HO570; clear BK561; clear HB; have HO558 := n0_; have HO570 := n1_; have HO573 := n2_; have BK561 := n3_; have HB := n4_; clear n0_ n1_ n2_ n3_ n4_; (try clear hb); (try clear hb2); (try clear hk); (try clear hi); (try clear ho0)) | ((with_reducible refine gate_dst (N := 22) rfl ?_); (try (refine gate_guard (by rfl) ?_; dsimp only)); refine box_event ?hg (N := 22) ?hd (cs := #[.slice none 0 0, .int .i64 0]) (t := 27) ?hr ?_; (case hd => rfl); (case hg => rfl); (case hr => first | (go_simp; done) | (go_simp; rfl)); intro gb576 hg w75 hbox hb; have n0_ := Aside0.mk (Kd.R_below (by (with_reducible repeat (first | apply Kd.R_alloc | apply Kd.R_drewN | apply Kd.R_drew)); exact HO558.out) hb); have n1_ := Aside0.mk (Kd.R_below (by (with_reducible repeat (first | apply Kd.R_alloc | apply Kd.R_drewN | apply Kd.R_drew)); exact HO570.out) hb); have n2_ := Aside0.mk (Kd.R_below (by (with_reducible repeat (first | apply Kd.R_alloc | apply Kd.R_drewN | apply Kd.R_drew)); exact HO573.out) hb); have n3_ := Aside0.mk (blk_below (g := gb561) (o := .cells #[.slice Ao67 t556.length co67, .int .i64 t559] 27 (0, 0)) (by (with_reducible repeat (first | refine blk_drewN ?_ _ | refine blk_drew ?_ | refine blk_alloc ?_ _)); exact BK561.out) hb); have n4_ := Aside0.mk (below_step (by repeat (first | (with_reducible first | exact HB.out | apply below_alloc | apply pw_below_drewN | apply below_drew1 | refine below_set ?_ GE561.out) | exact HB.out)) hb); have n5_ := Aside0.mk (hbox); have n6_ := Aside0.mk ((by rw [hg]; exact (below_size (by repeat (first | (with_reducible first | exact HB.out | apply below_alloc | apply pw_below_drewN | apply below_drew1 | refine below_set ?_ GE561.out) | exact HB.out))) : w.heap.size ≤ gb576)); have n7_ := Aside0.mk ((by rw [hg]; exact (below_size (by repeat (first | (with_reducible first | exact HB.out | apply below_alloc | apply pw_below_drewN | apply below_drew1 | refine below_set ?_ GE561.out) | exact HB.out))) : w.heap.size ≤ gb576)); have n8_ := Aside0.mk ((by rw [hg]; exact Nat.ne_of_lt (blk_lt (g := gb561) (o := .cells #[.slice Ao67 t556.length co67, .int .i64 t559] 27 (0, 0)) (by (with_reducible repeat (first | refine blk_drewN ?_ _ | refine blk_drew ?_ | refine blk_alloc ?_ _)); exact BK561.out)) : gb561 ≠ gb576)); have n9_ := Aside0.mk ((by rw [hg]; exact Nat.ne_of_gt (blk_lt (g := gb561) (o := .cells #[.slice Ao67 t556.length co67, .int .i64 t559] 27 (0, 0)) (by (with_reducible repeat (first | refine blk_drewN ?_ _ | refine blk_drew ?_ | refine blk_alloc ?_ _)); exact BK561.out)) : gb576 ≠ gb561)); clear HO558; clear HO570; clear HO573; clear BK561; clear HB; have HO558 := n0_; have HO570 := n1_; have HO573 := n2_; have BK561 := n3_; have HB := n4_; have BK576 := n5_; have GW576 := n6_; have GE576 := n7_; have NB561_576 := n8_; have NB576_561 := n9_; clear n0_ n1_ n2_ n3_ n4_ n5_ n6_ n7_ n8_ n9_; clear hb hbox hg; obtain ⟨Ao76, co76, eo76⟩ := Kd.R_slice HO573.out; subst eo76; have hnb77 := NB576_561.out; have hnc77 := NB561_576.out; have hcz78_0 : w75.cell? ⟨gb576, 0, none⟩ = some (.slice none 0 0) := (blk_cell BK576.out 0).trans rfl; have hcz78_1 : w75.cell? ⟨gb576, 1, none⟩ = some (.int .i64 0) := (blk_cell BK576.out 1).trans rfl; have hfz78_0 := blk_frozen BK576.out 0; have hfz78_1 := blk_frozen BK576.out 1))
                repeat (go_quiet (fail); try go_wp2)
                go_ret
                exact ⟨by first | rfl | (simp [errW_none, errW_some] <;> rfl) | (simp [*, errW_none, errW_some] <;> rfl), by repeat (first | (with_reducible first | exact HB.out | apply below_alloc | apply pw_below_drewN | apply below_drew1 | refine below_set ?_ GE561.out | refine below_set ?_ GE576.out) | exact HB.out)⟩
              · replace c64 := Bool.eq_false_iff.mpr c64
                subst c64
                have H1 : (some false) = some r := by rw [if_neg (show ¬ (false = true) by decide)] at H; exact H
                clear H
                have H := H1
                clear H1
                obtain rfl := Option.some.inj H
                go_wp2_with (first | (go_at_call 25; (with_reducible refine (spur_Route.calls _ _ l0 _ _ l1 _ _ l2 a4 a5 a6 a7 a8 t556 t559 false _ ?side1 ?side2 ?side3 ?side4 ?side5 ?side6 A17.out).mono ?_); (case side1 => repeat (first | exact (Kd.C_below HR0.out HB.out) | (with_reducible refine Kd.C_alloc ?_ _) | (with_reducible refine Kd.C_drewN ?_ _) | (with_reducible refine Kd.C_drew ?_))); (case side2 => exact HC0.out); (case side3 => repeat (first | exact (Kd.C_below HR1.out HB.out) | (with_reducible refine Kd.C_alloc ?_ _) | (with_reducible refine Kd.C_drewN ?_ _) | (with_reducible refine Kd.C_drew ?_))); (case side4 => exact HC1.out); (case side5 => repeat (first | exact (Kd.C_below HR2.out HB.out) | (with_reducible refine Kd.C_alloc ?_ _) | (with_reducible refine Kd.C_drewN ?_ _) | (with_reducible refine Kd.C_drew ?_))); (case side6 => exact HC2.out); rintro e w79 ⟨v557, rfl, ho0, hb⟩; have n0_ := Aside0.mk (Kd.R_lower ho0 (below_size (by repeat (first | (with_reducible first | exact HB.out | apply below_alloc | apply pw_below_drewN | apply below_drew1) | exact HB.out)))); have n1_ := Aside0.mk (below_step (by repeat (first | (with_reducible first | exact HB.out | apply below_alloc | apply pw_below_drewN | apply below_drew1) | exact HB.out)) hb); clear HB; have HO558 := n0_; have HB := n1_; clear n0_ n1_; (try clear hb); (try clear hb2); (try clear hk); (try clear hi); (try clear ho0)) | ((with_reducible refine gate_dst (N := 20) rfl ?_); (try (refine gate_guard (by rfl) ?_; dsimp only)); refine box_event ?hg (N := 20) ?hd (cs := #[.slice none 0 0, .int .i64 0]) (t := 27) ?hr ?_; (case hd => rfl); (case hg => rfl); (case hr => first | (go_simp; done) | (go_simp; rfl)); intro gb561 hg w80 hbox hb; have n0_ := Aside0.mk (Kd.R_below (by (with_reducible repeat (first | apply Kd.R_alloc | apply Kd.R_drewN | apply Kd.R_drew)); exact HO558.out) hb); have n1_ := Aside0.mk (below_step (by repeat (first | (with_reducible first | exact HB.out | apply below_alloc | apply pw_below_drewN | apply below_drew1) | exact HB.out)) hb); have n2_ := Aside0.mk (hbox); have n3_ := Aside0.mk ((by rw [hg]; exact (below_size (by repeat (first | (with_reducible first | exact HB.out | apply below_alloc | apply pw_below_drewN | apply below_drew1) | exact HB.out))) : w.heap.size ≤ gb561)); have n4_ := Aside0.mk ((by rw [hg]; exact (below_size (by repeat (first | (with_reducible first | exact HB.out | apply below_alloc | apply pw_below_drewN | apply below_drew1) | exact HB.out))) : w.heap.size ≤ gb561)); clear HO558; clear HB; have HO558 := n0_; have HB := n1_; have BK561 := n2_; have GW561 := n3_; have GE561 := n4_; clear n0_ n1_ n2_ n3_ n4_; clear hb hbox hg; obtain ⟨Ao81, co81, eo81⟩ := Kd.R_slice HO558.out; subst eo81; have hcz82_0 : w80.cell? ⟨gb561, 0, none⟩ = some (.slice none 0 0) := (blk_cell BK561.out 0).trans rfl; have hcz82_1 : w80.cell? ⟨gb561, 1, none⟩ = some (.int .i64 0) := (blk_cell BK561.out 1).trans rfl; have hfz82_0 := blk_frozen BK561.out 0; have hfz82_1 := blk_frozen BK561.out 1) | ((with_reducible refine gate_dst (N := 61) rfl ?_); (try (refine gate_guard (by rfl) ?_; dsimp only)); refine Kd.R_lit (Kd.int .i64) _ 3 ?hg (N := 61) ?hd (xs := ([] : List Int)) (inner := []) (ok := fun _ => True) (okp := fun _ => True) ?hr ?hp (fun _ hk => hk) trivial (Below.refl _ _) (Nat.le_refl _) (by simp) ?_; (case hd => rfl); (case hg => rfl); (case hr => first | (go_simp; done) | (go_simp; rfl)); (case hp => exact (Reps.none _ _)); intro v563 w83 ho84 hb hg_ hnew_; clear hg_ hnew_; (first | rw [← Ny562.out] at ho84 | (simp only [Int.reduceToNat] at ho84; rw [← Ny562.out] at ho84)); have n0_ := Aside0.mk (Kd.R_below (by (with_reducible repeat (first | apply Kd.R_alloc | apply Kd.R_drewN | apply Kd.R_drew)); exact (Kd.R_mono (Kd.R_far (p := ⟨gb561, 1, none⟩) (Kd.R_far (p := ⟨gb561, 0, none⟩) (Kd.R_types HO558.out BK561.out (by decide)) (fun _ hk => hk.2) (.slice Ao81 t556.length co81)) (fun _ hk => hk.2) (.int .i64 t559)) (fun _ h_ => h_.1))) hb); have n1_ := Aside0.mk (Kd.R_lower ho84 (below_size (by repeat (first | (with_reducible first | exact HB.out | apply below_alloc | apply pw_below_drewN | apply below_drew1 | refine below_set ?_ GE561.out) | exact HB.out)))); have n2_ := Aside0.mk (blk_below (g := gb561) (o := .cells #[.slice Ao81 t556.length co81, .int .i64 t559] 27 (0, 0)) (by (with_reducible repeat (first | refine blk_drewN ?_ _ | refine blk_drew ?_ | refine blk_alloc ?_ _)); refine blk_put (cs := #[.slice Ao81 t556.length co81, .int .i64 0]) ?_ 1 _ rfl; (with_reducible repeat (first | refine blk_drewN ?_ _ | refine blk_drew ?_ | refine blk_alloc ?_ _)); refine blk_put (cs := #[.slice none 0 0, .int .i64 0]) ?_ 0 _ rfl; (with_reducible repeat (first | refine blk_drewN ?_ _ | refine blk_drew ?_ | refine blk_alloc ?_ _)); exact BK561.out) hb); have n3_ := Aside0.mk (below_step (by repeat (first | (with_reducible first | exact HB.out | apply below_alloc | apply pw_below_drewN | apply below_drew1 | refine below_set ?_ GE561.out) | exact HB.out)) hb); clear HO558; clear BK561; clear HB; have HO558 := n0_; have HO564 := n1_; have BK561 := n2_; have HB := n3_; clear n0_ n1_ n2_ n3_; clear hb ho84) | ((with_reducible refine gate_builtin (b := .append) (xs := #[.tmp 61, .tmp 62]) rfl ?_); (try (refine gate_guard (by rfl) ?_; dsimp only)); at_builtin; refine Kd.R_append_rows (Kd.int .i64) (w0 := w) w.heap.size rfl (.tmp 61) (.tmp 62) 23 3 (.int .i64 0) 8 rfl Try.underlying23 info3 rfl (by decide) (by omega) v563 y562 l2 _ _ _ (fun _ => True) (fun _ => False) rfl rfl ?aO ?aR (fun _ _ h => h) (fun _ h => h.elim) ?aF ?aB ?aS ?aL ?_; (case aR => repeat (first | exact (Kd.C_below HR2.out HB.out) | (with_reducible refine Kd.C_alloc ?_ _) | (with_reducible refine Kd.C_drewN ?_ _) | (with_reducible refine Kd.C_drew ?_))); (case aB => exact (by repeat (first | (with_reducible first | exact HB.out | apply below_alloc | apply pw_below_drewN | apply below_drew1 | refine below_set ?_ GE561.out) | exact HB.out))); (case aF => exact (fun _ _ => trivial)); (case aO => exact (by (with_reducible repeat (first | apply Kd.R_alloc | apply Kd.R_drewN | apply Kd.R_drew)); exact HO564.out)); (case aS => exact (below_size (by repeat (first | (with_reducible first | exact HB.out | apply below_alloc | apply pw_below_drewN | apply below_drew1 | refine below_set ?_ GE561.out) | exact HB.out)))); (case aL => have := LMc18.out; omega); intro v566 w85 ho hb hg hat; rw [← Ny565.out] at ho; have n0_ := Aside0.mk (Kd.R_over' (by (with_reducible repeat (first | apply Kd.R_alloc | apply Kd.R_drewN | apply Kd.R_drew)); exact HO558.out) (Kd.R_typed (by (with_reducible repeat (first | apply Kd.R_alloc | apply Kd.R_drewN | apply Kd.R_drew)); exact HO564.out)) (by decide) hg); have n1_ := Aside0.mk (blk_grown (g := gb561) (o := .cells #[.slice Ao81 t556.length co81, .int .i64 t559] 27 (0, 0)) (by (with_reducible repeat (first | refine blk_drewN ?_ _ | refine blk_drew ?_ | refine blk_alloc ?_ _)); exact BK561.out) hg (Kd.R_ne HO564.out BK561.out (by decide))); have n2_ := Aside0.mk (hb); have n3_ := Aside0.mk (ho); clear HO558; clear BK561; clear HB; clear HO564; have HO558 := n0_; have BK561 := n1_; have HB := n2_; have HO567 := n3_; clear n0_ n1_ n2_ n3_; clear ho hb hg hat) | ((with_reducible refine gate_builtin (b := .append) (xs := #[.tmp 63, .tmp 64]) rfl ?_); (try (refine gate_guard (by rfl) ?_; dsimp only)); at_builtin; refine Kd.R_append_rows (Kd.int .i64) (w0 := w) w.heap.size rfl (.tmp 63) (.tmp 64) 23 3 (.int .i64 0) 8 rfl Try.underlying23 info3 rfl (by decide) (by omega) v566 y565 l3 _ _ _ (fun _ => True) (fun _ => False) rfl rfl ?aO ?aR (fun _ _ h => h) (fun _ h => h.elim) ?aF ?aB ?aS ?aL ?_; (case aR => repeat (first | exact (Kd.C_below HR3.out HB.out) | (with_reducible refine Kd.C_alloc ?_ _) | (with_reducible refine Kd.C_drewN ?_ _) | (with_reducible refine Kd.C_drew ?_))); (case aB => exact (by repeat (first | (with_reducible first | exact HB.out | apply below_alloc | apply pw_below_drewN | apply below_drew1 | refine below_set ?_ GE561.out) | exact HB.out))); (case aF => exact (fun _ _ => trivial)); (case aO => exact (by (with_reducible repeat (first | apply Kd.R_alloc | apply Kd.R_drewN | apply Kd.R_drew)); exact HO567.out)); (case aS => exact (below_size (by repeat (first | (with_reducible first | exact HB.out | apply below_alloc | apply pw_below_drewN | apply below_drew1 | refine below_set ?_ GE561.out) | exact HB.out)))); (case aL => have := LMc19.out; omega); intro v569 w86 ho hb hg hat; rw [← Ny568.out] at ho; have n0_ := Aside0.mk (Kd.R_over' (by (with_reducible repeat (first | apply Kd.R_alloc | apply Kd.R_drewN | apply Kd.R_drew)); exact HO558.out) (Kd.R_typed (by (with_reducible repeat (first | apply Kd.R_alloc | apply Kd.R_drewN | apply Kd.R_drew)); exact HO567.out)) (by decide) hg); have n1_ := Aside0.mk (blk_grown (g := gb561) (o := .cells #[.slice Ao81 t556.length co81, .int .i64 t559] 27 (0, 0)) (by (with_reducible repeat (first | refine blk_drewN ?_ _ | refine blk_drew ?_ | refine blk_alloc ?_ _)); exact BK561.out) hg (Kd.R_ne HO567.out BK561.out (by decide))); have n2_ := Aside0.mk (hb); have n3_ := Aside0.mk (ho); clear HO558; clear BK561; clear HB; clear HO567; have HO558 := n0_; have BK561 := n1_; have HB := n2_; have HO570 := n3_; clear n0_ n1_ n2_ n3_; clear ho hb hg hat; obtain ⟨Ao87, co87, eo87⟩ := Kd.R_slice HO570.out; subst eo87) | (go_at_call 25; (with_reducible refine (spur_Route.calls _ _ l0 _ _ l1 _ _ y568 a4 a5 a6 a7 a8 t571 t574 t575 _ ?side1 ?side2 ?side3 ?side4 ?side5 ?side6 A20.out).mono ?_); (case side1 => repeat (first | exact (Kd.C_below HR0.out HB.out) | (with_reducible refine Kd.C_alloc ?_ _) | (with_reducible refine Kd.C_drewN ?_ _) | (with_reducible refine Kd.C_drew ?_))); (case side2 => exact HC0.out); (case side3 => repeat (first | exact (Kd.C_below HR1.out HB.out) | (with_reducible refine Kd.C_alloc ?_ _) | (with_reducible refine Kd.C_drewN ?_ _) | (with_reducible refine Kd.C_drew ?_))); (case side4 => exact HC1.out); (case side5 => repeat (first | exact (Kd.R_reads' HO570.out).2.2 | (with_reducible refine Kd.C_alloc ?_ _) | (with_reducible refine Kd.C_drewN ?_ _) | (with_reducible refine Kd.C_drew ?_))); (case side6 => exact (Kd.R_reads' HO570.out).2.1); rintro e w88 ⟨v572, rfl, ho0, hb⟩; have n0_ := Aside0.mk (Kd.R_elder' (by (with_reducible repeat (first | apply Kd.R_alloc | apply Kd.R_drewN | apply Kd.R_drew)); exact HO558.out) (Kd.R_base ho0) hb); have n1_ := Aside0.mk (Kd.R_below (by (with_reducible repeat (first | apply Kd.R_alloc | apply Kd.R_drewN | apply Kd.R_drew)); exact HO570.out) hb); have n2_ := Aside0.mk (Kd.R_lower (Kd.R_new' ho0 (Kd.R_lt (by (with_reducible repeat (first | apply Kd.R_alloc | apply Kd.R_drewN | apply Kd.R_drew)); exact HO558.out))) (below_size (by repeat (first | (with_reducible first | exact HB.out | apply below_alloc | apply pw_below_drewN | apply below_drew1 | refine below_set ?_ GE561.out) | exact HB.out)))); have n3_ := Aside0.mk (blk_below (g := gb561) (o := .cells #[.slice Ao81 t556.length co81, .int .i64 t559] 27 (0, 0)) (by (with_reducible repeat (first | refine blk_drewN ?_ _ | refine blk_drew ?_ | refine blk_alloc ?_ _)); exact BK561.out) hb); have n4_ := Aside0.mk (below_step (by repeat (first | (with_reducible first | exact HB.out | apply below_alloc | apply pw_below_drewN | apply below_drew1 | refine below_set ?_ GE561.out) | exact HB.out)) hb); clear HO558; clear HO570; clear BK561; clear HB; have HO558 := n0_; have HO570 := n1_; have HO573 := n2_; have BK561 := n3_; have HB := n4_; clear n0_ n1_ n2_ n3_ n4_; (try clear hb); (try clear hb2); (try clear hk); (try clear hi); (try clear ho0)) | ((with_reducible refine gate_dst (N := 22) rfl ?_); (try (refine gate_guard (by rfl) ?_; dsimp only)); refine box_event ?hg (N := 22) ?hd (cs := #[.slice none 0 0, .int .i64 0]) (t := 27) ?hr ?_; (case hd => rfl); (case hg => rfl); (case hr => first | (go_simp; done) | (go_simp; rfl)); intro gb576 hg w89 hbox hb; have n0_ := Aside0.mk (Kd.R_below (by (with_reducible repeat (first | apply Kd.R_alloc | apply Kd.R_drewN | apply Kd.R_drew)); exact HO558.out) hb); have n1_ := Aside0.mk (Kd.R_below (by (with_reducible repeat (first | apply Kd.R_alloc | apply Kd.R_drewN | apply Kd.R_drew)); exact HO570.out) hb); have n2_ := Aside0.mk (Kd.R_below (by (with_reducible repeat (first | apply Kd.R_alloc | apply Kd.R_drewN | apply Kd.R_drew)); exact HO573.out) hb); have n3_ := Aside0.mk (blk_below (g := gb561) (o := .cells #[.slice Ao81 t556.length co81, .int .i64 t559] 27 (0, 0)) (by (with_reducible repeat (first | refine blk_drewN ?_ _ | refine blk_drew ?_ | refine blk_alloc ?_ _)); exact BK561.out) hb); have n4_ := Aside0.mk (below_step (by repeat (first | (with_reducible first | exact HB.out | apply below_alloc | apply pw_below_drewN | apply below_drew1 | refine below_set ?_ GE561.out) | exact HB.out)) hb); have n5_ := Aside0.mk (hbox); have n6_ := Aside0.mk ((by rw [hg]; exact (below_size (by repeat (first | (with_reducible first | exact HB.out | apply below_alloc | apply pw_below_drewN | apply below_drew1 | refine below_set ?_ GE561.out) | exact HB.out))) : w.heap.size ≤ gb576)); have n7_ := Aside0.mk ((by rw [hg]; exact (below_size (by repeat (first | (with_reducible first | exact HB.out | apply below_alloc | apply pw_below_drewN | apply below_drew1 | refine below_set ?_ GE561.out) | exact HB.out))) : w.heap.size ≤ gb576)); have n8_ := Aside0.mk ((by rw [hg]; exact Nat.ne_of_lt (blk_lt (g := gb561) (o := .cells #[.slice Ao81 t556.length co81, .int .i64 t559] 27 (0, 0)) (by (with_reducible repeat (first | refine blk_drewN ?_ _ | refine blk_drew ?_ | refine blk_alloc ?_ _)); exact BK561.out)) : gb561 ≠ gb576)); have n9_ := Aside0.mk ((by rw [hg]; exact Nat.ne_of_gt (blk_lt (g := gb561) (o := .cells #[.slice Ao81 t556.length co81, .int .i64 t559] 27 (0, 0)) (by (with_reducible repeat (first | refine blk_drewN ?_ _ | refine blk_drew ?_ | refine blk_alloc ?_ _)); exact BK561.out)) : gb576 ≠ gb561)); clear HO558; clear HO570; clear HO573; clear BK561; clear HB; have HO558 := n0_; have HO570 := n1_; have HO573 := n2_; have BK561 := n3_; have HB := n4_; have BK576 := n5_; have GW576 := n6_; have GE576 := n7_; have NB561_576 := n8_; have NB576_561 := n9_; clear n0_ n1_ n2_ n3_ n4_ n5_ n6_ n7_ n8_ n9_; clear hb hbox hg; obtain ⟨Ao90, co90, eo90⟩ := Kd.R_slice HO573.out; subst eo90; have hnb91 := NB576_561.out; have hnc91 := NB561_576.out; have hcz92_0 : w89.cell? ⟨gb576, 0, none⟩ = some (.slice none 0 0) := (blk_cell BK576.out 0).trans rfl; have hcz92_1 : w89.cell? ⟨gb576, 1, none⟩ = some (.int .i64 0) := (blk_cell BK576.out 1).trans rfl; have hfz92_0 := blk_frozen BK576.out 0; have hfz92_1 := blk_frozen BK576.out 1))
                repeat (go_quiet (fail); try go_wp2)
                go_ret
                exact ⟨by first | rfl | (simp [errW_none, errW_some] <;> rfl) | (simp [*, errW_none, errW_some] <;> rfl), by repeat (first | (with_reducible first | exact HB.out | apply below_alloc | apply pw_below_drewN | apply below_drew1 | refine below_set ?_ GE561.out | refine below_set ?_ GE576.out) | exact HB.out)⟩
          · rw [if_neg c19] at H
            exact absurd H (by simp)
        · rw [if_neg c18] at H
          exact absurd H (by simp)
end Go.Proofs.Ytijflnpgiegajaa.Q
end
section
namespace Go.Proofs.Ytijflnpgiegajaa.Q
open Go.RowKit Go.Proofs.YtijflnpgiegajaaW.PrintWords Go.Proofs.YtijflnpgiegajaaW.PrintLast Go.Proofs.YtijflnpgiegajaaW.PrintMore Go.Proofs.Ytijflnpgiegajaa.IM
set_option linter.unusedVariables false
set_option linter.unusedSimpArgs false
theorem lexLe_anti5 : ∀ (x y : List Int), lexLe x y → lexLe y x → x = y
  | [], [], _, _ => rfl
  | [], _ :: _, _, h => by simp [lexLe] at h
  | _ :: _, [], h, _ => by simp [lexLe] at h
  | a :: r, b :: s, h1, h2 => by
    simp only [lexLe] at h1 h2
    rcases h1 with h1 | ⟨rfl, h1⟩
    · rcases h2 with h2 | ⟨h2, _⟩ <;> omega
    · rcases h2 with h2 | ⟨_, h2⟩
      · omega
      · rw [lexLe_anti5 r s h1 h2]
theorem keyLe_anti5 {size now : Int} {es es' : List S65} (h1 : keyLe size now es es') (h2 : keyLe size now es' es) : es.map (·.f0) = es'.map (·.f0) := by
  rcases h1 with h1 | ⟨h1, h1' | ⟨h1', h1''⟩⟩
  · rcases h2 with h2 | ⟨h2, _⟩ <;> omega
  · rcases h2 with h2 | ⟨h2, h2' | ⟨h2', _⟩⟩ <;> omega
  · rcases h2 with h2 | ⟨h2, h2' | ⟨h2', h2''⟩⟩
    · omega
    · omega
    · exact lexLe_anti5 _ _ h1'' h2''
theorem route_len5 {l : List S65} {frm dst now size by_ : Int} {sh : List Int} {es : List S65} (h : RouteE l size sh frm now dst by_ es) : es.length ≤ l.length := way_short h.way h.nodup
theorem route_one {l : List S65} {frm dst now size by_ dst' by' : Int} {sh sh' : List Int} {es es' : List S65} (h : RouteE l size sh frm now dst by_ es) (h' : RouteE l size sh' frm now dst' by' es') (he : es.map (·.f0) = es'.map (·.f0)) : es = es' :=
  ids_one (rightL_pair h.asked.2.2.2) es es' (fun e he => (way_all es _ _ _ h.way e he).1) (fun e he => (way_all es' _ _ _ h'.way e he).1) he
theorem spurOk_iff {l : List S65} {root bans : List Int} {frm now dst size by_ : Int} {es : List S65} : SpurOk l root bans frm now dst size by_ es ↔ RouteE l size [] frm now dst by_ es ∧ (es.map (·.f0)).take root.length = root ∧ ∀ x, (es.map (·.f0))[root.length]? = some x → x ∉ bans := by
  constructor
  · rintro ⟨hR, rs, ss, rfl, rfl, hb⟩
    refine ⟨hR, by simp, fun x hx => ?_⟩
    cases ss with
    | nil => simp at hx
    | cons e r =>
      simp at hx
      subst hx
      exact hb e r rfl
  · rintro ⟨hR, ht, hb⟩
    have hl : root.length ≤ es.length := by
      have := congrArg List.length ht
      simp at this
      omega
    refine ⟨hR, es.take root.length, es.drop root.length, (List.take_append_drop _ _).symm, by rw [List.map_take]; exact ht, fun e r he => hb _ ?_⟩
    have h1 : es[root.length]? = some e := by
      have := congrArg (fun z : List S65 => z[0]?) he
      simpa using this
    simp [h1]
theorem bans_l0 {root more ids : List Int} {is_ : Bool} {h1 : List S56} {t1 : Int} {h2 : List S56} {t2 : Int} (hm : more.length ≤ 20) (K : Nat)
    (hin : ∀ x, ids[root.length]? = some x → x ∈ more → (if is_ = true then (order_Less.f K h1 t1 h2 t2).bind (fun t582 => (some t582)) else (some true)) = some true ∧ ∀ d, (if is_ = true then (order_Less.f (K + d) h1 t1 h2 t2).bind (fun t582 => (some t582)) else (some true)) = some true)
    (hout : (∀ x, ids[root.length]? = some x → x ∉ more) → (if is_ = true then (path_Same.f K h1 t1 h2 t2).bind (fun t583 => (some t583)) else (some false)) = some true) :
    ∀ (d i : Nat), i + d = more.length → (∀ x, ids[root.length]? = some x → x ∉ more.take i) → feluccalaw18_SpurBans.l0 (K + d + 1) root more true is_ ids (i : Int) h1 t1 h2 t2 = some true
  | 0, i, hi, ht => by
    rw [feluccalaw18_SpurBans.l0, if_neg (by omega), if_pos rfl]
    rw [List.take_of_length_le (by omega)] at ht
    exact hout ht
  | d + 1, i, hi, ht => by
    have hil : i < more.length := by omega
    have ih := bans_l0 hm K hin hout d (i + 1) (by omega)
    rw [show K + (d + 1) + 1 = (K + d + 1) + 1 from by omega, feluccalaw18_SpurBans.l0, if_pos (by omega), wrap_succ i hil (by omega)]
    by_cases hc : root.length < ids.length
    · rw [if_pos (by omega), if_pos (by omega), if_pos (by omega), if_pos (by omega), rdI ids _ hc, rdI more i hil]
      by_cases he : ids[root.length] = more[i]
      · rw [if_pos he, if_pos rfl]
        have := (hin ids[root.length] (List.getElem?_eq_getElem hc) (by rw [he]; exact List.getElem_mem hil)).2 (d + 1)
        rw [show K + (d + 1) = K + d + 1 from by omega] at this
        exact this
      · rw [if_neg he]
        refine ih (fun x hx => ?_)
        have hx' : ids[root.length] = x := by rw [List.getElem?_eq_getElem hc] at hx; injection hx
        rw [List.take_succ_eq_append_getElem hil, List.mem_append, not_or]
        exact ⟨ht x hx, by rw [← hx']; simpa using he⟩
    · rw [if_neg (by omega)]
      refine ih (fun x hx => ?_)
      rw [List.getElem?_eq_none (by omega)] at hx
      exact absurd hx (by simp)
theorem spurOk_less {l : List S65} {root bans more : List Int} {frm now dst size by_ : Int} {es : List S65} (h : SpurOk l root (bans ++ more) frm now dst size by_ es) : SpurOk l root bans frm now dst size by_ es := by
  rw [spurOk_iff] at *
  exact ⟨h.1, h.2.1, fun x hx q => h.2.2 x hx (List.mem_append_left _ q)⟩
theorem SpurBans_true (l : List S65) (root bans more : List Int) (frm dst now size by_ : Int) : feluccalaw18_SpurBans.f 200 l root bans more frm dst now size by_ = some true := by
  unfold feluccalaw18_SpurBans.f
  have hsm : feluccalaw18_small.f = some true := rfl
  rw [hsm]
  simp only [Option.bind_some]
  have hj : ∀ b : Bool, (b = false → l.length ≤ 20 ∧ root.length ≤ 20 ∧ bans.length ≤ 20 ∧ more.length ≤ 20) → feluccalaw18_SpurBans.j0 200 l root bans more frm dst now size by_ true b = some true := fun b hb => by
    rw [feluccalaw18_SpurBans.j0]
    cases b with
    | true => simp
    | false =>
      obtain ⟨hl, hr, hbn, hm⟩ := hb rfl
      have g0 : 0 + bans.length < 17592186044416 := by omega
      have g1 : bans.length < 17592186044416 := by omega
      have g2 : bans.length + more.length < 17592186044416 := by omega
      simp only [Bool.false_eq_true, if_false, Option.bind_some, List.nil_append, List.length_nil, Nat.zero_add, if_pos g1, if_pos g2]
      rcases spur_spec (l := l) (root := root) (bans := bans) (frm := frm) (dst := dst) (now := now) (size := size) (by_ := by_) (by omega) (by omega) (by omega) with ⟨hsp, hnr⟩ | ⟨es, hes, hsp, hmin⟩
      · rw [hsp]
        rcases spur_spec (l := l) (root := root) (bans := bans ++ more) (frm := frm) (dst := dst) (now := now) (size := size) (by_ := by_) (by omega) (by omega) (by simp; omega) with ⟨hsp2, _⟩ | ⟨es2, hes2, _, _⟩
        · rw [hsp2]
          simp
        · exact absurd (spurOk_less hes2) (hnr es2)
      · have hlen := route_len5 hes.1
        have hid := path_IDs_eq (hopsT size es now) (by rw [hopsT_len]; omega) 199 (by rw [hopsT_len]; omega) (endT size es now)
        rw [hopsT_ids] at hid
        obtain ⟨K, hK⟩ : ∃ K, 199 = K + more.length + 1 := ⟨198 - more.length, by omega⟩
        rcases spur_spec (l := l) (root := root) (bans := bans ++ more) (frm := frm) (dst := dst) (now := now) (size := size) (by_ := by_) (by omega) (by omega) (by simp; omega) with ⟨hsp2, hnr2⟩ | ⟨es2, hes2, hsp2, hmin2⟩
        · rw [hsp, hsp2]
          simp only [Option.bind_some, if_true, hid]
          have := bans_l0 (root := root) (more := more) (ids := es.map (·.f0)) (is_ := false) (h1 := hopsT size es now) (t1 := endT size es now) (h2 := []) (t2 := 0) hm K (fun x _ _ => ⟨rfl, fun d => rfl⟩) (fun hx => by
            exfalso
            refine hnr2 es (spurOk_iff.2 ⟨hes.1, (spurOk_iff.1 hes).2.1, fun x hx' q => ?_⟩)
            rcases List.mem_append.1 q with q | q
            · exact (spurOk_iff.1 hes).2.2 x hx' q
            · exact hx x hx' q) more.length 0 (by omega) (fun x _ => by simp)
          rw [← hK] at this
          exact this
        · have hlen2 := route_len5 hes2.1
          have hk := hmin es2 (spurOk_less hes2)
          have hc := cmpR_le hk
          have hcmp : ∀ d, order_Less.f (K + d) (hopsT size es now) (endT size es now) (hopsT size es2 now) (endT size es2 now) = some (decide (cmpR (hopsT size es now) (endT size es now) (hopsT size es2 now) (endT size es2 now) < 0)) := fun d => by
            unfold order_Less.f
            rw [order_Compare_eq _ _ _ _ (by rw [hopsT_len]; omega) (by rw [hopsT_len]; omega) (K + d) (by rw [hopsT_len, hopsT_len]; omega)]
            rfl
          rw [hsp, hsp2]
          simp only [Option.bind_some, if_true, hid]
          have := bans_l0 (root := root) (more := more) (ids := es.map (·.f0)) (is_ := true) (h1 := hopsT size es now) (t1 := endT size es now) (h2 := hopsT size es2 now) (t2 := endT size es2 now) hm K (fun x hx hxm => by
            have hlt : cmpR (hopsT size es now) (endT size es now) (hopsT size es2 now) (endT size es2 now) < 0 := by
              rcases Int.lt_or_eq_of_le hc.1 with q | q
              · exact q
              · exfalso
                have hids := hc.2 q
                rw [hids] at hx
                exact (spurOk_iff.1 hes2).2.2 x hx (List.mem_append_right _ hxm)
            refine ⟨?_, fun d => ?_⟩
            · have := hcmp 0
              rw [Nat.add_zero] at this
              rw [if_pos rfl, this]
              simp [hlt]
            · rw [if_pos rfl, hcmp d]
              simp [hlt]) (fun hx => by
            have hes3 : SpurOk l root (bans ++ more) frm now dst size by_ es := spurOk_iff.2 ⟨hes.1, (spurOk_iff.1 hes).2.1, fun x hx' q => by
              rcases List.mem_append.1 q with q | q
              · exact (spurOk_iff.1 hes).2.2 x hx' q
              · exact hx x hx' q⟩
            have he := route_one hes.1 hes2.1 (keyLe_anti5 hk (hmin2 es hes3))
            subst he
            rw [if_pos rfl, path_Same_eq _ _ _ _ (by rw [hopsT_len]; omega) K (by rw [hopsT_len]; omega)]
            simp) more.length 0 (by omega) (fun x _ => by simp)
          rw [← hK] at this
          exact this
  by_cases c1 : (l.length : Int) > 20
  · rw [if_pos c1]; exact hj true (fun h => by simp at h)
  rw [if_neg c1]
  by_cases c2 : (root.length : Int) > 20
  · rw [if_pos c2]; exact hj true (fun h => by simp at h)
  rw [if_neg c2]
  by_cases c3 : (bans.length : Int) > 20
  · rw [if_pos c3]; exact hj true (fun h => by simp at h)
  rw [if_neg c3]
  exact hj _ (fun h => ⟨by omega, by omega, by omega, by have := of_decide_eq_false h; omega⟩)
end Go.Proofs.Ytijflnpgiegajaa.Q
end
