/-
  The laws' own first question: a crash that keeps a byte.
-/
import Derived.Test.YtodlabpgjgbbpadDiskMore
import Derived.Laws.BytesArg
import Derived.Lib.SlBytesConst
namespace Go.Proofs.Ytodlabpgjgbbpad
open Go.RowKit Go.Agio

/-- A slice of bytes that reads as a list, as a string. -/
theorem str_reads (w : World) (A : Option Addr) (n c : Nat) (xs : List Int) (hR : Reads w A (bys xs)) (hn : xs.length = n) :
    (convert 26 9 (.slice A n c)).run Try.prog w = .ok (.string (strOfNums xs)) w := by
  subst hn
  have hs := Try.underlying26
  have he := Try.underlying5
  have hd := Try.underlying9
  rcases A with _ | a
  · have h0 : xs = [] := by
      rcases hR with h | ⟨_, _, h, _⟩
      · simpa using h
      · cases h
    subst h0
    exact run_convert_bytes_nil w _ _ hs he _ _ _ hd
  · rcases hR with h | ⟨b, off, h, _, hc⟩
    · have h0 : xs = [] := by simpa using h
      subst h0
      rw [run_convert_bytes_string w _ _ _ _ _ _ hs he hd, run_bytesToString w a _ c [] (by simp [loadCells, loadCellsFrom])]
      rfl
    · injection h with h
      subst h
      refine run_convert_bytes_arg w _ _ hs he b off _ c xs rfl (fun i hi => ?_) _ hd
      rw [hc i (by simpa using hi)]
      simp [List.getD_eq_getElem?_getD, hi]

theorem abc : strOfNums [97, 98, 99] = ⟨#[97, 98, 99]⟩ := by rfl

set_option maxHeartbeats 2000000 in
theorem awake_any (w : World) : Calls Try.prog 9 #[] w fun e w' => e = .returned (.bool true) ∧ Below w.heap.size w w' := by
  have kc := fun (w : World) (C : Array Value) (n c : Nat) => Lib.run_convert_bytes_const (P := Try.prog) w 26 5 C n c Try.underlying26 Try.underlying5
  go_enter Try.func9, Try.ntmps9
  go_wp2_with fail
  refine (new_any _).mono ?_
  rintro e w1 ⟨rfl, rfl⟩
  have D0 := hide (disk_new w.heap.size w (Nat.le_refl _))
  have hb0 := (Below.refl w.heap.size w).alloc (Nat.le_refl _) (.cells #[.slice none 0 0, .int .i64 0] 50)
  generalize w.alloc (.cells #[.slice none 0 0, .int .i64 0] 50) = W0 at *
  go_wp2_with fail
  refine (append_any w.heap.size w.heap.size [] 0 none 0 _ 2 2 [97, 98] _ (D0.out.moved ((Below.refl _ _).alloc (Nat.le_refl _) _)) (Reads.new _ _ _ _) rfl (by decide)).mono ?_
  rintro e w2 ⟨rfl, A2, c2, D2, M2⟩
  have hb2 := hide (M2.below (hb0.alloc hb0.size _) (Nat.le_refl _) (by simp) (by have := hb0.size; simp; omega))
  have HD2 := hide D2
  clear D2 M2
  go_wp2_with fail
  refine (sync_any _ _ _ _ _ _ _ HD2.out).mono ?_
  rintro e w3 ⟨rfl, D3, M3⟩
  have hb3 := hide (M3.below hb2.out (Nat.le_refl _) (fun a ha => (HD2.out.2.2.1.low a ha).1) hb2.out.size)
  have HD3 := hide D3
  clear D3 M3
  go_wp2_with fail
  refine (append_any w.heap.size w.heap.size _ _ _ _ _ 2 2 [99, 100] _ (HD3.out.moved ((Below.refl _ _).alloc (Nat.le_refl _) _)) (Reads.new _ _ _ _) rfl (by decide)).mono ?_
  rintro e w4 ⟨rfl, A4, c4, D4, M4⟩
  have hb4 := hide (M4.below (hb3.out.alloc hb3.out.size _) (Nat.le_refl _) (fun a ha => (HD3.out.2.2.1.low a ha).1) (by have := hb3.out.size; simp; omega))
  have HD4 := hide D4
  clear D4 M4
  go_wp2_with fail
  refine (crash_any _ _ _ _ 1 1 _ _ _ HD4.out (by decide)).mono ?_
  rintro e w5 ⟨rfl, c5, D5, M5⟩
  have hb5 := hide (M5.below hb4.out (Nat.le_refl _) (fun a ha => (HD4.out.2.2.1.low a ha).1) hb4.out.size)
  have HD5 : Hid (Disk w.heap.size w5 w.heap.size [97, 98, 99] 3 A4 c5) := hide D5
  clear D5 M5
  go_wp2_with fail
  refine (bytes_any _ _ _ _ _ _ _ HD5.out).mono ?_
  rintro e w6 ⟨A6, c6, rfl, O6, hb6⟩
  have q := str_reads w6 A6 3 c6 [97, 98, 99] (Reads.of_own O6) rfl
  rw [abc] at q
  have hb6' := hide (below_next hb5.out hb6)
  have HD6 := hide (HD5.out.moved hb6)
  clear O6 hb6
  go_wp2_with fail
  refine (synced_any _ _ _ _ _ _ _ HD6.out).mono ?_
  rintro e w7 ⟨rfl, rfl⟩
  go_wp2
  go_ret
  exact ⟨rfl, hb6'.out⟩

end Go.Proofs.Ytodlabpgjgbbpad
