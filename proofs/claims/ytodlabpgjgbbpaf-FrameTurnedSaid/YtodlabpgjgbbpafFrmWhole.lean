/-
  How many ends lie at or ahead of a place.
-/
import Derived.Test.YtodlabpgjgbbpafFrmScan
namespace Go.Proofs.Ytodlabpgjgbbpaf
open Go.RowKit Go.Agio

set_option maxRecDepth 100000 in
set_option maxHeartbeats 4000000 in
theorem whole_any (A : Option Addr) (cap : Nat) (ks : List Int) (k : Int) (w : World) (hR : Reads w A (ks.map (Value.int .i64))) (hm : ks.length ≤ 4611686018427387904) :
    Calls Try.prog 14 #[.slice A ks.length cap, .int .i64 k] w fun e w' =>
      (∃ n : Nat, e = .returned (.int .i64 n) ∧ n ≤ ks.length ∧ (∀ i, i < n → ks.getD i 0 ≤ k) ∧ (n < ks.length → k < ks.getD n 0)) ∧ Below w.heap.size w w' := by
  have HR := hide hR
  clear hR
  go_enter Try.func14, Try.ntmps14
  go_wp2
  go_loopw [5] (fun i wr => ∃ n : Nat, n ≤ ks.length ∧ i = .int .i64 n ∧ (∀ i, i < n → ks.getD i 0 ≤ k) ∧ Below w.heap.size w wr) (fun i _ => ks.length - (intOf i).toNat)
  case atStart => exact ⟨0, Nat.zero_le _, rfl, fun i hi => absurd hi (Nat.not_lt_zero _), Below.refl _ _⟩
  case round =>
    obtain ⟨n, hn, rfl, hall, hB⟩ := hrel
    have HALL := hide hall
    have HB := hide hB
    clear hall
    by_cases h1 : n < ks.length
    · obtain ⟨b, off, rfl, hb, hc⟩ := (HR.out.below hB).at_ (k := n) (by simpa using h1)
      have hck := hc n (by simpa using h1)
      rw [getD_map_int _ _ h1] at hck
      obtain ⟨x, hx⟩ : ∃ x, x = ks.getD n 0 := ⟨_, rfl⟩
      rw [← hx] at hck
      have HX := hide hx
      clear hc hx hB
      by_cases h2 : x ≤ k
      · go_wp2
        go_roundw
        case rel => exact ⟨n + 1, by omega, by go_num, fun i hi => by
          rcases Nat.lt_or_ge i n with h | h
          · exact HALL.out i h
          · obtain rfl : i = n := by omega
            rw [← HX.out]; exact h2, HB.out⟩
        case measure => simp [intOf]; omega
      · go_wp2
        go_ret
        exact ⟨⟨n, rfl, by omega, HALL.out, fun _ => (show k < ks.getD n 0 by rw [← HX.out]; omega)⟩, HB.out⟩
    · clear hB
      go_wp2
      go_ret
      exact ⟨⟨n, rfl, by omega, HALL.out, fun h => absurd h h1⟩, HB.out⟩

end Go.Proofs.Ytodlabpgjgbbpaf
