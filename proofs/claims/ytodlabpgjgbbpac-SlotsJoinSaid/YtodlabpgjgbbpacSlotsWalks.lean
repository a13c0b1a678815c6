/-
  What each function of slots does: whose a slot is, the next one, the iterator over all of a site, how many, a slice of them.
-/
import Derived.Test.YtodlabpgjgbbpacProg
import Derived.Test.YtodlabpgjgbbpacWords
import Derived.Test.YtodlabpgjgbbpacAppend
import Derived.Test.YtodlabpgjgbbpacSlotsPlain
import Derived.Test.YtodlabpgjgbbpacCollect
import Derived.RangeFuncNested
import Derived.RangeFuncBound
import Derived.RangeFuncCalls
import Derived.RangeFuncLeaves
import Derived.RangeFuncBox
import Derived.Shelf.Abstract
import Derived.Shelf.RegionOpen
import Derived.WalkKit
import Derived.OwnWalkIn
import Derived.TacticsInMore
import Derived.LoopNIn
import Derived.LoopIn
import Derived.Maps.AppendAt
namespace Go.Proofs.Ytodlabpgjgbbpac
open Go.RowKit Go.Shelf Go.Agio

attribute [local go_sem] Oper.semAt_some

theorem owner_any (s n : Int) (w : World) : Calls Try.prog 11 #[.int .i64 s, .int .i64 n] w fun e w' => e = .returned (.int .i64 (Slt.owner s n)) ∧ w = w' := by
  by_cases h : 0 ≤ s ∧ s ≤ 4095 ∧ 1 ≤ n ∧ n ≤ 64
  · obtain ⟨h1, h2, h3, h4⟩ := h
    have HE := hide (Slt.owner_of ⟨h1, h2⟩ ⟨h3, h4⟩)
    go_enter Try.func11, Try.ntmps11
    go_wp2
    go_ret
    exact ⟨by rw [HE.out]; rfl, rfl⟩
  · have HE := hide (show Slt.owner s n = -1 by unfold Slt.owner; rw [if_neg h])
    by_cases h1 : s < 0
    · clear h
      go_enter Try.func11, Try.ntmps11
      go_wp2
      go_ret
      exact ⟨by rw [HE.out]; rfl, rfl⟩
    · by_cases h2 : 4096 ≤ s
      · clear h
        go_enter Try.func11, Try.ntmps11
        go_wp2
        go_ret
        exact ⟨by rw [HE.out]; rfl, rfl⟩
      · by_cases h3 : n < 1
        · clear h
          go_enter Try.func11, Try.ntmps11
          go_wp2
          go_ret
          exact ⟨by rw [HE.out]; rfl, rfl⟩
        · have h4 : 64 < n := by omega
          clear h
          go_enter Try.func11, Try.ntmps11
          go_wp2
          go_ret
          exact ⟨by rw [HE.out]; rfl, rfl⟩

/-- None of the site's from there up to k. -/
def Clear (site lo n : Int) (k : Nat) : Prop := ∀ j : Nat, lo ≤ (j : Int) → j < k → (j : Int) % n ≠ site
theorem Clear.more {site lo n : Int} {k : Nat} (h : Clear site lo n k) (hk : (k : Int) % n ≠ site) : Clear site lo n (k + 1) := fun j h1 h2 => by
  by_cases e : j = k
  · subst e; exact hk
  · exact h j h1 (by omega)

set_option maxRecDepth 100000 in
set_option maxHeartbeats 1000000 in
theorem next_any (site lo n : Int) (w : World) : Calls Try.prog 12 #[.int .i64 site, .int .i64 lo, .int .i64 n] w fun e w' => e = .returned (.int .i64 (Slt.next site lo n)) ∧ w = w' := by
  by_cases h : 1 ≤ n ∧ n ≤ 64 ∧ 0 ≤ site ∧ site < n
  · obtain ⟨h1, h2, h3, h4⟩ := h
    obtain ⟨k0, hk0, hlo, hc0⟩ : ∃ k0 : Nat, (lo = (k0 : Int) ∨ (lo < 0 ∧ k0 = 0)) ∧ lo ≤ k0 ∧ Clear site lo n k0 := by
      by_cases hl : lo < 0
      · exact ⟨0, .inr ⟨hl, rfl⟩, by omega, fun j _ h => by omega⟩
      · exact ⟨lo.toNat, .inl (by omega), by omega, fun j hj h => by omega⟩
    have HC0 := hide hc0
    clear hc0
    have HK := hide hk0
    obtain ⟨lo', hlo'⟩ : ∃ lo', lo' = lo := ⟨_, rfl⟩
    have HL := hide hlo'
    have fin1 : ∀ k : Nat, (k : Int) < 4096 → lo' ≤ k → (k : Int) % n = site → Clear site lo' n k → Slt.next site lo n = k := fun k a1 a2 a3 a4 => by
      rw [← HL.out]; exact Slt.next_here ⟨h1, h2⟩ h3 (by omega) a2 a3 a4
    have fin2 : ∀ k : Nat, (4096 : Int) ≤ k → Clear site lo' n k → Slt.next site lo n = -1 := fun k a1 a4 => by
      rw [← HL.out]; exact Slt.next_gone fun j b1 b2 => a4 j b1 (by omega)
    have F1 := hide fin1
    have F2 := hide fin2
    have HC1 : Hid (Clear site lo' n k0) := hide (by rw [HL.out]; exact HC0.out)
    have hlo0 : lo' ≤ k0 := by rw [HL.out]; exact hlo
    clear fin1 fin2 hlo'
    rcases hk0 with rfl | ⟨hl, rfl⟩
    all_goals
      clear hlo HK HL
      go_enter Try.func12, Try.ntmps12
      go_wp2_with fail
      go_loop [7] (fun s => ∃ k : Nat, s = .int .i64 k ∧ lo' ≤ k ∧ Clear site lo' n k) (fun s => 4096 - (intOf s).toNat)
      case atStart => exact ⟨_, rfl, hlo0, HC1.out⟩
      case round =>
        obtain ⟨k, rfl, hk1, hk2⟩ := hrel
        have HK2 := hide hk2
        clear hk2 hlo0 HC0 HC1
        by_cases hlt : (k : Int) < 4096
        · obtain ⟨m, hm⟩ : ∃ m, m = (k : Int) % n := ⟨_, rfl⟩
          have HM := hide hm
          have hm' : (k : Int) % n = m := hm.symm
          clear hm
          by_cases he : m = site
          · have HR := hide (F1.out k hlt hk1 (HM.out.symm.trans he) HK2.out)
            go_wp2
            go_ret
            exact ⟨by rw [HR.out]; rfl, rfl⟩
          · have HC := hide (HK2.out.more (fun e => he (HM.out.trans e)))
            go_wp2
            go_round
            case rel => exact ⟨k + 1, by go_num, by omega, HC.out⟩
            case measure => simp [intOf]; omega
        · have HR := hide (F2.out k (by omega) HK2.out)
          go_wp2
          go_ret
          exact ⟨by rw [HR.out]; rfl, rfl⟩
  · have HE := hide (Slt.next_none (site := site) (n := n) (by omega) lo)
    by_cases h1 : n < 1
    · clear h
      go_enter Try.func12, Try.ntmps12
      go_wp2
      go_ret
      exact ⟨by rw [HE.out]; rfl, rfl⟩
    · by_cases h2 : 64 < n
      · clear h
        go_enter Try.func12, Try.ntmps12
        go_wp2
        go_ret
        exact ⟨by rw [HE.out]; rfl, rfl⟩
      · by_cases h3 : site < 0
        · clear h
          go_enter Try.func12, Try.ntmps12
          go_wp2
          go_ret
          exact ⟨by rw [HE.out]; rfl, rfl⟩
        · have h4 : n ≤ site := by omega
          clear h
          go_enter Try.func12, Try.ntmps12
          go_wp2
          go_ret
          exact ⟨by rw [HE.out]; rfl, rfl⟩

/-- The blocks from lo on below hi lie as they lay. -/
def KeepsRun (lo hi : Nat) (W W' : World) : Prop := ∀ b, lo ≤ b → b < hi → W'.heap[b]? = W.heap[b]?
theorem KeepsRun.refl (lo hi : Nat) (W : World) : KeepsRun lo hi W W := fun _ _ _ => rfl
theorem KeepsRun.trans {lo hi : Nat} {A B C : World} (h : KeepsRun lo hi A B) (k : KeepsRun lo hi B C) : KeepsRun lo hi A C := fun b h1 h2 => (k b h1 h2).trans (h b h1 h2)
theorem KeepsRun.put {lo hi : Nat} {w : World} (hh : hi ≤ w.heap.size) (W : World) (l : Nat) (o o' : Obj) (hl : w.heap.size ≤ l) (_ : W.heap[l]? = some o) (_ : o.isCells = false) (_ : o.isWalk = false) : KeepsRun lo hi W (W.putObj l o') :=
  fun b _ h2 => World.putObj_heap_other (by omega)
theorem KeepsRun.of_below {lo hi n : Nat} {A B : World} (h : Below n A B) (hn : hi ≤ n) : KeepsRun lo hi A B := fun b _ h2 => h.block b (by omega)
/-- The iterator's four variables. -/
structure Vars (W : World) (b : Nat) (site lo hi n : Int) : Prop where
  site : Boxed W b 3 (.int .i64 site)
  lo : Boxed W (b + 1) 3 (.int .i64 lo)
  hi : Boxed W (b + 2) 3 (.int .i64 hi)
  n : Boxed W (b + 3) 3 (.int .i64 n)
theorem Vars.keep {A B : World} {b : Nat} {site lo hi n : Int} (h : Vars A b site lo hi n) (k : KeepsRun b (b + 4) A B) : Vars B b site lo hi n :=
  ⟨(k b (by omega) (by omega)).trans h.site, (k _ (by omega) (by omega)).trans h.lo, (k _ (by omega) (by omega)).trans h.hi, (k _ (by omega) (by omega)).trans h.n⟩

set_option maxRecDepth 100000 in
set_option maxHeartbeats 2000000 in
theorem own1_in (m : Nat) (hm : 1 ≤ m) (l b : Nat) (site lo hi n : Int) (J Jx : List Int → World → Prop)
    (hY : ∀ pre x W, J pre W → pre.length < 4096 → YieldAt Fence.wide (m - 1) Try.prog l #[.int .i64 x] W fun e W' =>
      (e = .returned (.bool true) ∧ J (pre ++ [x]) W' ∧ KeepsRun b (b + 4) W W') ∨ (e = .returned (.bool false) ∧ Jx (pre ++ [x]) W'))
    (W : World) (hV : Vars W b site lo hi n) (h0 : J [] W) :
    CallsIn Fence.wide m Try.prog 20 #[.func (.yield l) #[] #[], .pointer (some ⟨b, 0, none⟩), .pointer (some ⟨b + 1, 0, none⟩), .pointer (some ⟨b + 3, 0, none⟩), .pointer (some ⟨b + 2, 0, none⟩)] W fun e W' => (∃ v, e = .returned v) ∧
      ((∃ xs, xs = Slt.own site lo hi n ∧ J xs W') ∨ (∃ pre, True ∧ Jx pre W')) := by
  have hF : Fence.wide.fn 12 := trivial
  have x0 := hV.site.cell; have x1 := hV.lo.cell; have x2 := hV.hi.cell; have x3 := hV.n.cell
  have HV := hide hV
  have HJ := hide h0
  obtain ⟨s, hs⟩ : ∃ s, s = Slt.next site lo n := ⟨_, rfl⟩
  have HS := hide hs
  have CN : Hid (∀ w, Calls Try.prog 12 #[.int .i64 site, .int .i64 lo, .int .i64 n] w fun e w' => e = .returned (.int .i64 s) ∧ w = w') := hide (fun w => by rw [hs]; exact next_any site lo n w)
  clear hV h0 hs
  refine callsIn_of_wp Try.func20 rfl trivial ?_ rfl
  simp only [Try.ntmps20, List.size_toArray, List.length_cons, List.length_nil, Nat.reduceAdd, Nat.reduceSub, Array.replicate_succ, Array.replicate_zero, List.push_toArray, List.append_toArray, List.nil_append, List.cons_append]
  by_cases hneg : s < 0
  · gi_wp2_with (gi_at_call 12; refine (callsIn_wide.2 (CN.out _)).mono ?_; rintro e w' ⟨rfl, rfl⟩)
    have HE := hide (Slt.own_past (hi := hi) (show Slt.next site lo n = -1 by
      rcases Slt.next_or site lo n with h | h
      · exact h
      · rw [← HS.out] at h; omega))
    refine bodyPost_ret (results_none rfl _ _ _) rfl ?_
    exact ⟨⟨_, rfl⟩, .inl ⟨[], HE.out.symm, HJ.out⟩⟩
  · obtain ⟨k0, rfl⟩ : ∃ k0 : Nat, s = k0 := ⟨s.toNat, by omega⟩
    obtain ⟨hn1, hn2, hs0, hs1⟩ := Slt.next_fine (by rw [← HS.out]; omega : 0 ≤ Slt.next site lo n)
    obtain ⟨hk1, hk2, hk3⟩ := Slt.next_is (by rw [← HS.out]; omega : 0 ≤ Slt.next site lo n)
    rw [← HS.out] at hk1 hk2 hk3
    obtain ⟨d, rfl⟩ : ∃ d : Nat, n = d := ⟨n.toNat, by omega⟩
    have HN : Hid (1 ≤ (d : Int) ∧ (d : Int) ≤ 64) := hide ⟨hn1, hn2⟩
    have HK1 := hide hk1; have HK3 := hide hk3
    have H0 := hide (Slt.upto_start (hi := hi) ⟨hn1, hn2⟩ hs0 HS.out.symm)
    clear hk1 hk3 HS
    gi_wp2_with (gi_at_call 12; refine (callsIn_wide.2 (CN.out _)).mono ?_; rintro e w' ⟨rfl, rfl⟩)
    clear x0 x1 x2 x3
    gi_loopw [6] (fun s wr => ∃ k : Nat, s = .int .i64 k ∧ k ≤ 4200 ∧ lo ≤ k ∧ Hid ((k : Int) % (d : Int) = site) ∧ J (Slt.upto site lo hi d k) wr ∧ KeepsRun b (b + 4) W wr) (fun s _ => 4300 - (intOf s).toNat)
    case atStart => exact ⟨k0, rfl, by omega, HK1.out, hide HK3.out, by rw [H0.out]; exact HJ.out, KeepsRun.refl _ _ _⟩
    case round =>
      obtain ⟨k, rfl, hk, hkl, HM, hJk, hkr⟩ := hrel
      have HV2 := HV.out.keep hkr
      have y2 := HV2.hi.cell; have y3 := HV2.n.cell
      have HV2 := hide HV2; have HKR := hide hkr
      clear hkr
      by_cases hlt : (k : Int) < min hi 4096
      · have hlen := Slt.upto_len (site := site) (lo := lo) (hi := hi) (n := (d : Int)) (s := k)
        obtain ⟨fn, tmps, assign, body, hy, hR⟩ := hY _ (k : Int) wr hJk (by omega)
        have HST := hide (Slt.upto_step (hi := hi) HN.out hs0 rfl hkl HM.out hlt)
        have HNM := hide (show ((k + d : Nat) : Int) % (d : Int) = site by rw [show ((k + d : Nat) : Int) = (k : Int) + (d : Int) by omega, Int.add_emod_right]; exact HM.out)
        by_cases hh : hi ≤ 4096
        all_goals
          have hlt' : (k : Int) < 4096 := by omega
          have hlt2 : (k : Int) < hi := by omega
          have hd64 := HN.out
          have hd1 : 1 ≤ (d : Int) := hd64.1
          have hd2 : (d : Int) ≤ 64 := hd64.2
          clear hd64 hlt hlen
          gi_wp2
          refine hR.mono ?_
          rintro e W3 (⟨rfl, hJ3, hk3⟩ | ⟨rfl, hJx3⟩)
          · have z3 := (HV2.out.keep hk3).n.cell
            have HK3 := hide (HKR.out.trans hk3)
            gi_wp2
            go_roundw
            case rel => exact ⟨k + d, by go_num, by omega, by omega, HNM, by rw [HST.out]; exact hJ3, HK3.out⟩
            case measure => simp [intOf]; omega
          · gi_wp2
            refine bodyPost_ret (results_none rfl _ _ _) rfl ?_
            exact ⟨⟨_, rfl⟩, .inr ⟨_, trivial, hJx3⟩⟩
      · have HE := hide (Slt.upto_end (site := site) (lo := lo) (n := (d : Int)) (by omega : min hi 4096 ≤ (k : Int)))
        by_cases hh : hi ≤ 4096
        · have h1 : hi ≤ k := by omega
          clear hlt
          gi_wp2
          go_end0
          first | exact ⟨⟨_, rfl⟩, .inl ⟨_, HE.out, hJk⟩⟩ | exact ⟨⟨_, rfl⟩, .inl (by rw [← HE.out]; exact hJk)⟩
        · have h1 : 4096 ≤ (k : Int) := by omega
          clear hlt
          gi_wp2
          go_end0
          first | exact ⟨⟨_, rfl⟩, .inl ⟨_, HE.out, hJk⟩⟩ | exact ⟨⟨_, rfl⟩, .inl (by rw [← HE.out]; exact hJk)⟩

theorem own1_stops (m : Nat) (hm : 1 ≤ m) (b : Nat) (site lo hi n : Int) (w : World) (hb : b + 4 ≤ w.heap.size) (hV : Vars w b site lo hi n) :
    SeqStopsK Fence.wide m Try.prog 20 #[.pointer (some ⟨b, 0, none⟩), .pointer (some ⟨b + 1, 0, none⟩), .pointer (some ⟨b + 3, 0, none⟩), .pointer (some ⟨b + 2, 0, none⟩)] (fun x : Int => #[Value.int .i64 x]) (KeepsRun b (b + 4)) (fun ys => ys = Slt.own site lo hi n) (fun _ => True) 4096 w :=
  fun l J Jx W hW _ _ hY h0 => own1_in m hm l b site lo hi n J Jx hY W (hV.keep (KeepsRun.of_below hW hb)) h0

theorem own_in (F : Fence) (m : Nat) (hF : F.fn 18) (hro : F.round = none) (site lo hi n : Int) (w : World) :
    CallsIn F m Try.prog 18 #[.int .i64 site, .int .i64 lo, .int .i64 hi, .int .i64 n] w fun e w' =>
      e = .returned (.func (.func 20) #[] #[.pointer (some ⟨w.heap.size, 0, none⟩), .pointer (some ⟨w.heap.size + 1, 0, none⟩), .pointer (some ⟨w.heap.size + 1 + 1 + 1, 0, none⟩), .pointer (some ⟨w.heap.size + 1 + 1, 0, none⟩)]) ∧
      w' = (((w.alloc (.cells #[.int .i64 site] 3)).alloc (.cells #[.int .i64 lo] 3)).alloc (.cells #[.int .i64 hi] 3)).alloc (.cells #[.int .i64 n] 3) := by
  refine callsIn_of_wp Try.func18 rfl hF ?_ hro
  simp only [Try.ntmps18, List.size_toArray, List.length_cons, List.length_nil, Nat.reduceAdd, Nat.reduceSub, Array.replicate_succ, Array.replicate_zero, List.push_toArray, List.append_toArray, List.nil_append, List.cons_append]
  gi_wp2
  go_ret
  exact ⟨rfl, rfl⟩
theorem vars_new (w : World) (site lo hi n : Int) : Vars ((((w.alloc (.cells #[.int .i64 site] 3)).alloc (.cells #[.int .i64 lo] 3)).alloc (.cells #[.int .i64 hi] 3)).alloc (.cells #[.int .i64 n] 3)) w.heap.size site lo hi n := by
  refine ⟨((Boxed.new _ _ _).alloc _ |>.alloc _).alloc _, ?_, ?_, ?_⟩
  · have := Boxed.new (w.alloc (.cells #[.int .i64 site] 3)) 3 (.int .i64 lo); rw [World.size_alloc] at this; exact (this.alloc _).alloc _
  · have := Boxed.new ((w.alloc (.cells #[.int .i64 site] 3)).alloc (.cells #[.int .i64 lo] 3)) 3 (.int .i64 hi); simp only [World.size_alloc] at this; exact this.alloc _
  · have := Boxed.new (((w.alloc (.cells #[.int .i64 site] 3)).alloc (.cells #[.int .i64 lo] 3)).alloc (.cells #[.int .i64 hi] 3)) 3 (.int .i64 n); simp only [World.size_alloc] at this; exact this

theorem boxed_own' {β : Type} (B : Nat) (t : TypeId) (f : β → Value) : Own (fun s W => Boxed W B t (f s)) := by
  intro s X Y row hv hg hrow
  refine hv.kept hg (fun e' => ?_)
  obtain ⟨o, ho, hc⟩ := hrow B e'.symm
  rw [show X.heap[B]? = _ from hv] at ho; cases ho; cases hc

set_option maxRecDepth 100000 in
set_option maxHeartbeats 2000000 in
theorem count_any (site lo hi n : Int) (w : World) : Calls Try.prog 10 #[.int .i64 site, .int .i64 lo, .int .i64 hi, .int .i64 n] w fun e w' => e = .returned (.int .i64 ((Slt.own site lo hi n).length : Int)) ∧ Below w.heap.size w w' := by
  refine (callsIn_wide (n := 5)).1 ?_
  have hF : Fence.wide.fn 18 := trivial
  refine callsIn_of_wp_marks Try.func10 rfl trivial ?_ rfl
  simp only [Try.ntmps10, List.size_toArray, List.length_cons, List.length_nil, Nat.reduceAdd, Nat.reduceSub, Array.replicate_succ, Array.replicate_zero, List.push_toArray, List.append_toArray, List.nil_append, List.cons_append]
  gi_wp2_with (gi_at_call 18; refine (own_in Fence.wide _ trivial rfl _ _ _ _ _).mono ?_; rintro e w' ⟨rfl, rfl⟩)
  have c0 := Boxed.new w 3 (.int .i64 0)
  have hv := vars_new (w.alloc (.cells #[.int .i64 0] 3)) site lo hi n
  rw [World.size_alloc] at hv
  have hB0 : Below w.heap.size w (((((w.alloc (.cells #[.int .i64 0] 3)).alloc (.cells #[.int .i64 site] 3)).alloc (.cells #[.int .i64 lo] 3)).alloc (.cells #[.int .i64 hi] 3)).alloc (.cells #[.int .i64 n] 3)) :=
    (((((Below.refl _ w).alloc (Nat.le_refl _) _).alloc (by simp) _).alloc (by simp; omega) _).alloc (by simp; omega) _).alloc (by simp; omega) _
  refine wpIn_rangeFunc_ownF rfl (by omega) (gf := 20) (lb := #[.pointer (some ⟨w.heap.size + 1, 0, none⟩), .pointer (some ⟨w.heap.size + 1 + 1, 0, none⟩), .pointer (some ⟨w.heap.size + 1 + 1 + 1 + 1, 0, none⟩), .pointer (some ⟨w.heap.size + 1 + 1 + 1, 0, none⟩)]) rfl trivial (enters_of Try.func20 (by kernel_rfl) rfl)
    (own1_stops _ (by omega) (w.heap.size + 1) site lo hi n _ (by simp) hv) (fun h k => KeepsRun.trans h k) (KeepsRun.put (by simp)) (Below.refl _ _) (fun _ => rfl)
    (fun pre W => Boxed W w.heap.size 3 (.int .i64 (pre.length : Int)) ∧ Below w.heap.size w W)
    (fun _ _ _ => False)
    (OwnFrom.and (Own.from (boxed_own' w.heap.size 3 (fun pre : List Int => .int .i64 (pre.length : Int))) _) (ownFrom_below (Nat.le_refl _) (by simp; omega)))
    (fun _ _ _ _ _ hs _ _ => hs)
    ⟨(((c0.alloc _).alloc _).alloc _).alloc _, hB0⟩
    (fun x => { tmps := #[.int .i64 site, .int .i64 lo, .int .i64 hi, .int .i64 n, undef, undef, undef, undef, .int .i64 0, .pointer (some ⟨w.heap.size, 0, none⟩), .int .i64 site, .int .i64 lo, .int .i64 hi, .int .i64 n,
      .func (.func 20) #[] #[.pointer (some ⟨w.heap.size + 1, 0, none⟩), .pointer (some ⟨w.heap.size + 1 + 1, 0, none⟩), .pointer (some ⟨w.heap.size + 1 + 1 + 1 + 1, 0, none⟩), .pointer (some ⟨w.heap.size + 1 + 1 + 1, 0, none⟩)], .int .i64 x, undef, undef, undef], defers := [] }) ?assign ?body ?done ?stop
  case assign =>
    intro l x W K hK
    gi_wp2
    simpa using hK
  case body =>
    rintro l pre x W ⟨hb, hB⟩ hlt
    have hc := hb.cell; have hf := hb.frozen
    have hlt' : (pre.length : Int) < 4096 := by omega
    gi_wp2
    have hs := hb.set (.int .i64 ((pre.length : Int) + 1))
    refine ⟨KeepsOthers.setCell _ _ _, fun b h1 h2 => Below.heap_setCell _ _ _ b (by show b ≠ w.heap.size; omega), ?_, hB.setCell (p := ⟨w.heap.size, 0, none⟩) (Nat.le_refl _) _⟩
    rw [List.length_append]
    exact hs
  case done =>
    rintro D ys W hD rfl ⟨hb, hB⟩ hK
    have hc := hb.cell
    gi_wp2
    refine ⟨by simp, .inl ⟨_, _, rfl, run_takeDeferred hK, ?_⟩⟩
    exact ⟨_, results_tmp rfl _ _ _, rfl, hB.trans (belowK_b (w := w) (Nat.le_refl _) W D _ _ (by simp at hD; omega) hK rfl rfl)⟩
  case stop =>
    rintro D c pre W _ _ h _
    exact h.elim

theorem own_base {W : World} {base base' : Nat} {e : TypeId} {size : Nat} {v : Value} {k : Nat} {xs : List Value} (h : W.ownsRow base e size v k xs) (hb : base' ≤ base) : W.ownsRow base' e size v k xs := by
  refine ⟨h.1, ?_⟩
  rcases h.2 with hn | ⟨g, cap, cur, hv, hbg, rest⟩
  · exact .inl hn
  · exact .inr ⟨g, cap, cur, hv, Nat.le_trans hb hbg, rest⟩

/-- A slice of numbers of the call's own. -/
def Nums (w w' : World) (e : Ending) (l : List Int) : Prop := ∃ A c, e = .returned (.slice A l.length c) ∧ w'.ownsRow w.heap.size 3 1 (.slice A l.length c) l.length (l.map (Value.int .i64)) ∧ Below w.heap.size w w'

set_option maxRecDepth 100000 in
set_option maxHeartbeats 2000000 in
theorem all_any (site lo hi n : Int) (w : World) : Calls Try.prog 17 #[.int .i64 site, .int .i64 lo, .int .i64 hi, .int .i64 n] w fun e w' => Nums w w' e (Slt.own site lo hi n) := by
  refine (callsIn_wide (n := 6)).1 ?_
  have hF : Fence.wide.fn 18 := trivial
  have hF2 : Fence.wide.fn 19 := trivial
  refine callsIn_of_wp Try.func17 rfl trivial ?_ rfl
  simp only [Try.ntmps17, List.size_toArray, List.length_cons, List.length_nil, Nat.reduceAdd, Nat.reduceSub, Array.replicate_succ, Array.replicate_zero, List.push_toArray, List.append_toArray, List.nil_append, List.cons_append]
  have hv := hide (vars_new w site lo hi n)
  gi_wp2_with (first | (gi_at_call 18; refine (own_in Fence.wide _ trivial rfl _ _ _ _ _).mono ?_; rintro e w' ⟨rfl, rfl⟩) |
    (gi_at_call 19; refine (collect_in _ (by omega) 20 _ (enters_of Try.func20 (by kernel_rfl) rfl) (KeepsRun w.heap.size (w.heap.size + 4)) _ _ 4096 (by omega) _ _ (Below.refl _ _) (own1_stops _ (by omega) w.heap.size site lo hi n _ (by simp) hv.out) (fun h k => KeepsRun.trans h k) (fun h => KeepsRun.of_below h (by simp))).mono ?_; rintro e w' ⟨A, c, xs, rfl, rfl, hrow, hb⟩))
  go_ret
  exact ⟨A, c, rfl, own_base hrow (by simp; omega), (((((Below.refl _ w).alloc (Nat.le_refl _) _).alloc (by simp) _).alloc (by simp; omega) _).alloc (by simp; omega) _).trans (hb.mono (by simp; omega))⟩

end Go.Proofs.Ytodlabpgjgbbpac
