/-
  What the document's functions of slots do.
-/
import Derived.Test.YtodlabpgjgbbpacSlotsAwake
import Derived.Test.YtodlabpgjgbbpacSlotsMore
import Derived.Deep.QuietTactic
import Derived.BigQuiet
namespace Go.Proofs.Ytodlabpgjgbbpac
open Go.RowKit Go.Agio

theorem below_drawn {B : Nat} {a w : World} (h : Below B a w) (n : Nat) : Below B a (w.drewN n) := ⟨h.os, h.tape, h.output, h.size, h.block⟩

attribute [local irreducible] Slt.own Slt.next Slt.total Slt.owner

theorem rowner_any (s n : Int) (w : World) : Calls Try.prog 14 #[.int .i64 s, .int .i64 n] w fun e w' => e = .returned (.int .i64 (Slt.owner s n)) ∧ w = w' := by
  by_cases h : 0 ≤ s ∧ s ≤ 4095 ∧ 1 ≤ n ∧ n ≤ 64
  · obtain ⟨h1, h2, h3, h4⟩ := h
    have HE := hide (Slt.owner_of ⟨h1, h2⟩ ⟨h3, h4⟩)
    go_enter Try.func14, Try.ntmps14
    go_wp2
    go_ret
    exact ⟨by rw [HE.out]; rfl, rfl⟩
  · have HE := hide (Slt.owner_off h)
    by_cases h1 : s < 0
    · clear h
      go_enter Try.func14, Try.ntmps14
      go_wp2
      go_ret
      exact ⟨by rw [HE.out]; rfl, rfl⟩
    · by_cases h2 : 4095 < s
      · clear h
        go_enter Try.func14, Try.ntmps14
        go_wp2
        go_ret
        exact ⟨by rw [HE.out]; rfl, rfl⟩
      · by_cases h3 : n < 1
        · clear h
          go_enter Try.func14, Try.ntmps14
          go_wp2
          go_ret
          exact ⟨by rw [HE.out]; rfl, rfl⟩
        · have h4 : 64 < n := by omega
          clear h
          go_enter Try.func14, Try.ntmps14
          go_wp2
          go_ret
          exact ⟨by rw [HE.out]; rfl, rfl⟩

set_option maxRecDepth 100000 in
set_option maxHeartbeats 2000000 in
theorem rown_any (site lo hi n : Int) (w : World) : Calls Try.prog 13 #[.int .i64 site, .int .i64 lo, .int .i64 hi, .int .i64 n] w fun e w' => Nums w w' e (Slt.own site lo hi n) := by
  obtain ⟨i0, hi0, hz0, hz1, hz2⟩ := info_parts infoC
  go_enter Try.func13, Try.ntmps13
  go_wp2_with fail
  go_loopw [9, 10] (fun v s wr => ∃ (k : Nat) (A : Option Addr) (c : Nat), k ≤ 4096 ∧ s = .int .i64 k ∧ v = .slice A (Slt.part site lo hi n k).length c ∧ wr.ownsRow w.heap.size 3 1 (.slice A (Slt.part site lo hi n k).length c) (Slt.part site lo hi n k).length ((Slt.part site lo hi n k).map (Value.int .i64)) ∧ Below w.heap.size w wr) (fun _ s _ => 4096 - (intOf s).toNat)
  case atStart => exact ⟨0, none, 0, by omega, rfl, rfl, World.ownsRow_nil _ _ _ _, Below.refl _ _⟩
  case round =>
    obtain ⟨k, A, c, hk, rfl, rfl, hown, hbr⟩ := hrel
    have Hown := hide hown
    clear hown
    by_cases hlt : k < 4096
    · obtain ⟨O, hO⟩ : ∃ O, O = Slt.owner (k : Int) n := ⟨_, rfl⟩
      have CO : Hid (∀ w, Calls Try.prog 14 #[.int .i64 (k : Int), .int .i64 n] w fun e w' => e = .returned (.int .i64 O) ∧ w = w') := hide (fun w => by rw [hO]; exact rowner_any _ _ w)
      have HL := hide (Slt.part_len (site := site) (lo := lo) (hi := hi) (n := n) (k := k))
      by_cases hy : lo ≤ (k : Int) ∧ (k : Int) < hi ∧ 0 ≤ site ∧ O = site
      · obtain ⟨y1, y2, y3, rfl⟩ := hy
        have HP := hide (Slt.part_yes y1 y2 y3 hO.symm)
        clear hO
        generalize Slt.part O lo hi n k = l at *
        go_wp2_with fail
        refine (CO.out _).mono ?_
        rintro e w1 ⟨rfl, rfl⟩
        go_wp2_with (at_builtin; apply halted)
        refine unhalt (wpList_append_reads rfl (.tmp 34) (.tmp 36) 32 rfl w.heap.size 3 i0 (.int .i64 0) 8 Try.underlying32 hi0 hz0 hz1 hz2 rfl _ l.length (l.map (Value.int .i64)) rfl (Hown.out.alloc _) (some ⟨wr.heap.size, 0, none⟩) 1 1 [.int .i64 (k : Int)] rfl (Reads.new_at _ _ _ _ _ rfl) rfl (one_one _ rfl) (by have := HL.out; unfold maxLen; omega) (by have := HL.out; omega) (by simp; have := hbr.size; omega) ?_)
        intro A' c' w2 n2 g2 t2
        have HB := hide ((hbr.alloc hbr.size _).grown g2 (by simp; have := hbr.size; omega) (fun g hg => (Hown.out.lt g hg).1))
        have N2 := hide n2
        clear n2 g2 t2
        go_wp2
        go_roundw
        case rel => exact ⟨k + 1, A', c', by omega, by go_num, by rw [HP.out]; simp, by rw [HP.out]; simpa using N2.out, HB.out⟩
        case measure => simp [intOf]; omega
      · have HP := hide (Slt.part_no (site := site) (lo := lo) (hi := hi) (n := n) (k := k) (by rw [← hO]; exact hy))
        clear hO
        generalize Slt.part site lo hi n k = l at *
        by_cases c1 : (k : Int) < lo
        · clear hy
          go_wp2
          go_roundw
          case rel => exact ⟨k + 1, A, c, by omega, by go_num, by rw [HP.out], by rw [HP.out]; exact Hown.out, hbr⟩
          case measure => simp [intOf]; omega
        · by_cases c2 : hi ≤ (k : Int)
          · clear hy
            go_wp2
            go_roundw
            case rel => exact ⟨k + 1, A, c, by omega, by go_num, by rw [HP.out], by rw [HP.out]; exact Hown.out, hbr⟩
            case measure => simp [intOf]; omega
          · by_cases c3 : site < 0
            · clear hy
              go_wp2
              go_roundw
              case rel => exact ⟨k + 1, A, c, by omega, by go_num, by rw [HP.out], by rw [HP.out]; exact Hown.out, hbr⟩
              case measure => simp [intOf]; omega
            · have c4 : ¬ O = site := fun e => hy ⟨by omega, by omega, by omega, e⟩
              clear hy
              go_wp2_with fail
              refine (CO.out _).mono ?_
              rintro e w1 ⟨rfl, rfl⟩
              go_wp2
              go_roundw
              case rel => exact ⟨k + 1, A, c, by omega, by go_num, by rw [HP.out], by rw [HP.out]; exact Hown.out, hbr⟩
              case measure => simp [intOf]; omega
    · obtain rfl : k = 4096 := by omega
      have HP := hide (Slt.part_all (site := site) (lo := lo) (hi := hi) (n := n))
      generalize Slt.part site lo hi n 4096 = l at *
      go_wp2
      go_ret
      rw [← HP.out]
      exact ⟨A, c, rfl, Hown.out, hbr⟩

set_option maxHeartbeats 1000000 in
theorem rnext_any (site lo n : Int) (w : World) : Calls Try.prog 15 #[.int .i64 site, .int .i64 lo, .int .i64 n] w fun e w' => e = .returned (.int .i64 (Slt.next site lo n)) ∧ Below w.heap.size w w' := by
  have HN := hide (Slt.next_eq site lo n)
  have CO := hide (rown_any site lo 4096 n)
  generalize Slt.own site lo 4096 n = l at *
  cases l with
  | nil =>
    go_enter Try.func15, Try.ntmps15
    go_wp2_with fail
    refine (CO.out _).mono ?_
    rintro e w1 ⟨A, c, rfl, _, hb⟩
    simp only [List.length_nil]
    go_wp2
    go_ret
    exact ⟨by rw [HN.out]; rfl, hb⟩
  | cons x t =>
    go_enter Try.func15, Try.ntmps15
    go_wp2_with fail
    refine (CO.out _).mono ?_
    rintro e w1 ⟨A, c, rfl, hown, hb⟩
    obtain ⟨b, off, rfl, _, hc⟩ := (Reads.of_own hown).at_ (k := 0) (by simp)
    have h0 : w1.cell? ⟨b, off, none⟩ = some (.int .i64 x) := by have := hc 0 (by simp); simpa using this
    clear hc hown
    obtain ⟨m, hm⟩ : ∃ m, m = t.length := ⟨_, rfl⟩
    simp only [List.length_cons, ← hm]
    clear hm
    go_wp2
    go_ret
    exact ⟨by rw [HN.out]; rfl, hb⟩

set_option maxRecDepth 100000 in
set_option maxHeartbeats 2000000 in
/-- Two lists that are the same. -/
theorem same_yes (A B : Option Addr) (c d : Nat) (l : List Int) (w : World) (hA : Reads w A (l.map (Value.int .i64))) (hB : Reads w B (l.map (Value.int .i64))) (hm : l.length ≤ 100000) :
    Calls Try.prog 16 #[.slice A l.length c, .slice B l.length d] w fun e w' => e = .returned (.bool true) ∧ Below w.heap.size w w' := by
  have HA := hide hA; have HB := hide hB
  clear hA hB
  go_enter Try.func16, Try.ntmps16
  go_wp2_with fail
  go_loopw [5] (fun i wr => ∃ k : Nat, k ≤ l.length ∧ i = .int .i64 k ∧ Below w.heap.size w wr) (fun i _ => l.length - (intOf i).toNat)
  case atStart => exact ⟨0, Nat.zero_le _, rfl, Below.refl _ _⟩
  case round =>
    obtain ⟨k, hk, rfl, hbr⟩ := hrel
    by_cases hlt : k < l.length
    · obtain ⟨b, off, rfl, hb, hc⟩ := (HA.out.below hbr).at_ (k := k) (by simpa using hlt)
      have hck := hc k (by simpa using hlt)
      rw [getD_map_int _ _ hlt] at hck
      obtain ⟨b', off', rfl, hb', hc'⟩ := (HB.out.below hbr).at_ (k := k) (by simpa using hlt)
      have hck' := hc' k (by simpa using hlt)
      rw [getD_map_int _ _ hlt] at hck'
      generalize l.getD k 0 = x at *
      generalize l.length = n at *
      clear hc hc'
      go_wp2_with fail
      go_quiet (fail)
      go_wp2
      go_roundw
      case rel => exact ⟨k + 1, by omega, by go_num, below_drawn hbr _⟩
      case measure => simp [intOf]; omega
    · obtain rfl : k = l.length := by omega
      go_wp2
      go_ret
      exact ⟨rfl, hbr⟩

end Go.Proofs.Ytodlabpgjgbbpac
