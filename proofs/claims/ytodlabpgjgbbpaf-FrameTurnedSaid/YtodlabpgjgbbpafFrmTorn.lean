/-
  FrameTorn: a beginning of frames, one behind the other, is scanned as those that are whole in it; all of them as they were. No conditions.
-/
import Derived.Test.YtodlabpgjgbbpafFrmRow
import Derived.Test.YtodlabpgjgbbpafFrmAwake
import Derived.Test.YtodlabpgjgbbpafLaw
import Derived.Test.YtodlabpgjgbbpafTrod
import Derived.Test.YtodlabpgjgbbpafRows
namespace Go.Frm
theorem scan_nil : scan ([] : Row) = ([], 0) := scan_end (by simp [code])
theorem scan_all {l : List Row} (h : ∀ x ∈ l, x.length ≤ 4096) : scan (puts l) = (l, (puts l).length) := by
  have := scan_puts l [] h
  rw [List.append_nil, scan_nil] at this
  simpa using this
theorem puts_ok : ∀ {l : List Row}, (∀ x ∈ l, ok x) → ok (puts l)
  | [], _ => fun z hz => by simp [puts] at hz
  | x :: l, h => ok_append (put_ok (h x (by simp))) (puts_ok (fun y hy => h y (by simp [hy])))
/-- What whole has found. -/
theorem whole_of {l : List Row} {k n : Nat} (h1 : n ≤ l.length) (h2 : ∀ i, i < n → (ends l).getD i 0 ≤ (k : Int)) (h3 : n < (ends l).length → (k : Int) < (ends l).getD n 0) : wholeTo l k n := by
  refine ⟨h1, ?_, fun h => ?_⟩
  · rcases Nat.eq_zero_or_pos n with h0 | h0
    · subst h0; simp [puts]
    · have := h2 (n - 1) (by omega)
      rw [ends_at (by omega), show n - 1 + 1 = n by omega] at this
      omega
  · have := h3 (by rw [ends_length]; exact h)
    rw [ends_at h] at this
    omega
end Go.Frm
namespace Go.Proofs.Ytodlabpgjgbbpaf
open Go.RowKit Go.Agio Go.ChangeShapes Go.WideShapes Go.ChangeAt

theorem elem22 : Try.prog.underlying 30 = some (.slice (Try.prog.elem 30)) := by kernel_rfl
theorem size22 (w : World) : (sizeOf (Try.prog.elem 30)).run Try.prog w = .ok 1 w := by kernel_rfl
theorem RowsAt.rd {w : World} {base n c : Nat} {A : Option Addr} {l : List (List Int)} (h : RowsAt w base (.slice A n c) l) : RowsRd w A l ∧ n ≤ c ∧ l.length = n := by
  obtain ⟨vals, h1, h2, h3⟩ := h
  refine ⟨⟨vals, ?_, h2, fun i hi => ?_⟩, ?_, ?_⟩
  · rcases h1.2 with ⟨he, hn⟩ | ⟨g, cap, cur, he, _, hh, _, _, hcs, htake⟩
    · left; exact List.eq_nil_of_length_eq_zero (by rw [h2]; exact hn)
    · have e : Value.slice A n c = .slice A l.length c := by injection he with _ e2 _; rw [e2]
      have h1' := h1
      rw [e] at h1'
      exact Reads.of_own h1'
  · obtain ⟨B, d, g1, g2, _⟩ := h3 i hi
    exact ⟨B, d, by rw [List.getD_eq_getElem?_getD, g1]; rfl, g2⟩
  · rcases h1.2 with ⟨he, hn⟩ | ⟨g, cap, cur, he, _, _, hnc, _⟩
    · injection he with _ e2 e3; omega
    · injection he with _ e2 e3; omega
  · rcases h1.2 with ⟨he, hn⟩ | ⟨g, cap, cur, he, _, _, hnc, _⟩
    · injection he with _ e2 e3; omega
    · injection he with _ e2 e3; omega
theorem RowsRd.take {w : World} {A : Option Addr} {l : List (List Int)} (h : RowsRd w A l) (n : Nat) : RowsRd w A (l.take n) := by
  obtain ⟨vals, h1, h2, h3⟩ := h
  refine ⟨vals.take n, h1.take n, by simp [h2], fun i hi => ?_⟩
  rw [List.length_take] at hi
  obtain ⟨B, c, g1, g2⟩ := h3 i (by omega)
  have e : (l.take n).getD i [] = l.getD i [] := by simp [List.getD_eq_getElem?_getD, show i < n by omega]
  rw [e]
  exact ⟨B, c, by rw [← g1]; simp [List.getD_eq_getElem?_getD, show i < n by omega], g2⟩
theorem bys_take' (xs : List Int) (n : Nat) : bys (xs.take n) = (bys xs).take n := by simp [bys, List.map_take]
theorem own_cap {w : World} {base n c : Nat} {e : TypeId} {A : Option Addr} {xs : List Value} (h : w.ownsRow base e 1 (.slice A n c) n xs) : n ≤ c := by
  rcases h.2 with ⟨he, hn⟩ | ⟨g, cap, cur, he, _, _, hnc, _⟩
  · omega
  · injection he with _ _ e3; omega
/-- Scan, its list told by name. -/
theorem scan_is {A : Option Addr} {n c : Nat} {xs : List Int} {m : List (List Int)} {k : Nat} (hs : Frm.scan xs = (m, k)) (hn : xs.length = n) (w : World) (hR : Reads w A (bys xs)) (hx : Frm.ok xs) (hl : n ≤ 46912496000000) (hc : n ≤ c) :
    Calls Try.prog 13 #[.slice A n c] w fun e w' => ∃ L d, e = .returned (.tuple #[.slice L m.length d, .int .i64 (k : Int)]) ∧ RowsRd w' L m ∧ m.length ≤ d ∧ Below w.heap.size w w' := by
  subst hn
  refine (scan_any A c xs w hR hx hl hc).mono ?_
  rintro e w' ⟨L, d, rfl, h1, h2⟩
  rw [hs] at h1 ⊢
  exact ⟨L, d, rfl, h1.rd.1, h1.rd.2.1, h2⟩
theorem same_is {A B : Option Addr} {c d n m : Nat} {xs ys : List (List Int)} (hn : xs.length = n) (hm : ys.length = m) (he : xs = ys) (w : World) (hA : RowsRd w A xs) (hB : RowsRd w B ys) (hx : ∀ x ∈ xs, ∀ z ∈ x, 0 ≤ z ∧ z ≤ 255) (hl : n ≤ 4611686018427387904) :
    Calls Try.prog 15 #[.slice A n c, .slice B m d] w fun e w' => e = .returned (.bool true) ∧ Below w.heap.size w w' := by
  subst he; subst hn; subst hm
  have := rsame_any A B c d xs xs w hA hB hx hx hl hl
  rw [decide_eq_true rfl] at this
  exact this

/-- A list of lists of bytes, opened. -/
theorem rows_lists {W : World} {A : Option Addr} {n : Nat} {V : Nat → List Value} (hR : Agio.Rows W A n 1 V) (hel : ∀ i, i < n → ∃ (xs : List Int) (B : Option Addr) (c : Nat), V i = [.slice B xs.length c] ∧ Reads W B (bys xs) ∧ Frm.ok xs ∧ xs.length ≤ 140737488351232) :
    ∃ ls : List (List Int), ls.length = n ∧ RowsRd W A ls ∧ (∀ x ∈ ls, Frm.ok x) ∧ ∀ x ∈ ls, x.length ≤ 140737488351232 := by
  have h' : ∀ i, ∃ xs : List Int, i < n → ∃ (B : Option Addr) (c : Nat), V i = [.slice B xs.length c] ∧ Reads W B (bys xs) ∧ Frm.ok xs ∧ xs.length ≤ 140737488351232 := fun i => by
    by_cases hi : i < n
    · obtain ⟨xs, h⟩ := hel i hi
      exact ⟨xs, fun _ => h⟩
    · exact ⟨[], fun h => absurd h hi⟩
  obtain ⟨X, hX⟩ : ∃ X : Nat → List Int, ∀ i, i < n → ∃ (B : Option Addr) (c : Nat), V i = [.slice B (X i).length c] ∧ Reads W B (bys (X i)) ∧ Frm.ok (X i) ∧ (X i).length ≤ 140737488351232 := ⟨fun i => Classical.choose (h' i), fun i hi => Classical.choose_spec (h' i) hi⟩
  clear h' hel
  have hg : ∀ i, i < n → ((List.range n).map X).getD i [] = X i := fun i hi => by
    rw [List.getD_eq_getElem?_getD, List.getElem?_map, List.getElem?_range hi]; rfl
  refine ⟨(List.range n).map X, by simp, ⟨(List.range n).map fun i => (V i).getD 0 undef, ?_, by simp, fun i hi => ?_⟩, fun x hx => ?_, fun x hx => ?_⟩
  · rcases hR with h0 | ⟨b, off, e, hlt, hc⟩
    · left; rw [h0]; rfl
    · refine .inr ⟨b, off, e, hlt, fun i hi => ?_⟩
      have hi' : i < n := by simpa using hi
      have h := hc i hi' 0 (by omega)
      rw [show off + i * 1 + 0 = off + i by omega] at h
      rw [h]
      simp [List.getD_eq_getElem?_getD, List.getElem?_range hi']
  · have hi' : i < n := by simpa using hi
    obtain ⟨B, c, h1, h2, _⟩ := hX i hi'
    refine ⟨B, c, ?_, by rw [hg i hi']; exact h2⟩
    rw [hg i hi', List.getD_eq_getElem?_getD, List.getElem?_map, List.getElem?_range hi']
    show (V i).getD 0 undef = _
    rw [h1]; rfl
  · obtain ⟨i, hi, rfl⟩ := List.mem_map.1 hx
    obtain ⟨B, c, _, _, h, _⟩ := hX i (List.mem_range.1 hi)
    exact h
  · obtain ⟨i, hi, rfl⟩ := List.mem_map.1 hx
    obtain ⟨B, c, _, _, _, h⟩ := hX i (List.mem_range.1 hi)
    exact h

set_option maxRecDepth 100000 in
set_option maxHeartbeats 8000000 in
theorem frameTorn_walk (L : Option Addr) (cap : Nat) (ls : List (List Int)) (x : Int) (w : World) (hL : RowsRd w L ls) (hx : ∀ x ∈ ls, Frm.ok x) (hxl : ∀ x ∈ ls, x.length ≤ 140737488351232) (hm : ls.length ≤ 9223372036854775807) (hcap : ls.length ≤ cap) (hx0 : 0 ≤ x) (hx1 : x ≤ 65535) :
    Calls Try.prog 4 #[.slice L ls.length cap, .int .u16 x] w fun e w' => e = .returned (.bool true) ∧ Below w.heap.size w w' := by
  have HL := hide hL; have HX := hide hx; have HXL := hide hxl
  clear hL hx hxl
  go_enter Try.func4, Try.ntmps4
  go_wp2_with fail
  refine (awake_any _).mono ?_
  rintro e w1 ⟨rfl, hb1⟩
  have HB1 := hide hb1
  clear hb1
  go_wp2_with fail
  refine (row_any L cap ls w1 (HL.out.below HB1.out) HX.out HXL.out hm).mono ?_
  rintro e w2 ⟨hb2, hg⟩
  have HB2 := hide (HB1.out.trans (hb2.mono HB1.out.size))
  rcases hg with ⟨A, c, B, d, rfl, ho, hq, hall, hlen⟩ | rfl
  · have HO := hide ho; have HQ := hide hq; have HALL := hide hall
    have HC := hide (own_cap ho)
    clear ho hq hall hb2
    obtain ⟨l, hl⟩ : ∃ l, l = ls.take 30 := ⟨_, rfl⟩
    rw [← hl] at HO HQ HALL HC hlen ⊢
    have hl30 : l.length ≤ 30 := by rw [hl, List.length_take]; omega
    have hlls : l.length ≤ ls.length := by rw [hl, List.length_take]; omega
    have HLT := hide (fun (n : Nat) (h : n ≤ l.length) => show l.take n = ls.take n from by rw [hl, List.take_take, Nat.min_eq_left (by omega)])
    have HLX := hide (fun y (hy : y ∈ l) => HX.out y (List.mem_of_mem_take (by rw [← hl]; exact hy)))
    clear hl
    by_cases h0 : l.length = 0
    · have h0' : (l.length : Int) = 0 := by omega
      rw [h0] at *
      clear HO HQ HC
      go_wp2
      go_ret
      exact ⟨rfl, HB2.out⟩
    · have h0' : ¬ (l.length : Int) = 0 := by omega
      have h0'' : ((l.length : Int) == 0) = false := by simpa using h0
      obtain ⟨p, hp⟩ : ∃ p, p = Frm.puts l := ⟨_, rfl⟩
      rw [← hp] at HO HC hlen ⊢
      have HP := hide hp
      obtain ⟨en, hen⟩ : ∃ en, en = Frm.ends l := ⟨_, rfl⟩
      rw [← hen] at HQ
      have HEN := hide hen
      clear hp hen
      have a1 : (0 : Int) < (p.length : Int) + 1 := by omega
      have a2 : ¬ ((p.length : Int) + 1 = 0) := by omega
      have HOP := hide (show Frm.ok p from by rw [HP.out]; exact Frm.puts_ok HLX.out)
      obtain ⟨k, hk⟩ : ∃ k : Nat, x % ((p.length : Int) + 1) = (k : Int) := ⟨(x % ((p.length : Int) + 1)).toNat, by have := Int.emod_nonneg x a2; omega⟩
      have hkp : k ≤ p.length := by have := Int.emod_lt_of_pos x a1; omega
      have hkc : k ≤ c := by have := HC.out; omega
      have hs0 := cut_h 22 elem8 size8 A p.length c k hkc
      rw [← hk] at hs0
      have HEL : Hid (en.length = l.length) := hide (by rw [HEN.out, Frm.ends_length])
      go_wp2_with fail
      simp only [hk]
      clear hs0
      have HK := hide hk
      clear hk
      obtain ⟨m1, E1, hm1⟩ : ∃ m E, Frm.scan (p.take k) = (m, E) := ⟨_, _, rfl⟩
      have HM1 := hide hm1
      refine (scan_is (xs := p.take k) hm1 (by rw [List.length_take]; omega) w2 (by rw [bys_take']; exact (Reads.of_own HO.out).take k) (Frm.ok_take HOP.out k) (by omega) hkc).mono ?_
      clear hm1
      rintro e w3 ⟨L1, d1, rfl, hr1, _, hb3⟩
      have HR1 := hide hr1
      have HB3 := hide hb3
      clear hr1 hb3
      go_wp2_with fail
      try simp only [HK.out]
      have CW := whole_any B d en (k : Int) w3 ((Reads.of_own (HEL.out ▸ HQ.out)).below HB3.out) (by have := HEL.out; omega)
      rw [HEL.out] at CW
      refine CW.mono ?_
      clear CW
      rintro e w4 ⟨⟨n, rfl, hn1, hn2, hn3⟩, hb4⟩
      have HB4 := hide (HB3.out.trans (hb4.mono HB3.out.size))
      have HR4 := hide (HR1.out.below hb4)
      have hst := Frm.scan_torn HALL.out (Frm.whole_of hn1 (by rw [← HEN.out]; exact hn2) (by rw [← HEN.out, HEL.out]; exact hn3))
      rw [← HP.out] at hst
      have hpair := HM1.out.symm.trans hst
      injection hpair with e1 e2
      have HM := hide e1
      have HE1 := hide e2
      clear hst hn2 hn3 hb4 e1 e2 HM1 HR1
      have hmn : (l.take n).length = n := by rw [List.length_take]; omega
      have HMN := hide (show m1.length = n from by rw [HM.out]; exact hmn)
      clear hmn
      have hs1 := cut_h 30 elem22 size22 L ls.length cap n (by omega)
      have hs2 := cut_h 30 elem22 size22 L ls.length cap l.length (by omega)
      have HSA := hide (show Frm.scan p = (l, p.length) from by rw [HP.out]; exact Frm.scan_all HALL.out)
      by_cases hn0 : n = 0
      · subst hn0
        have hE : E1 = 0 := by rw [HE1.out]; simp [Frm.puts]
        subst hE
        replace hs1 : ∀ w : World, (Instr.slice 30 (.slice L ls.length cap) none (some (.int .i64 0)) none).run Try.prog w = .ok (.slice L 0 cap) w := hs1
        go_wp2_with fail
        refine (scan_is (xs := p) HSA.out rfl w4 ((Reads.of_own HO.out).below HB4.out) HOP.out (by omega) HC.out).mono ?_
        rintro e w5 ⟨L5, d5, rfl, hr5, _, hb5⟩
        have HR5 := hide hr5; have HB5 := hide hb5
        have HBW5 := hide ((HB2.out.trans (HB4.out.mono HB2.out.size)).trans (hb5.mono (Nat.le_trans HB2.out.size HB4.out.size)))
        clear hr5 hb5
        go_wp2_with fail
        refine (same_is (xs := m1) (ys := l.take (0)) rfl (by rw [List.length_take]; omega) HM.out w5 (HR4.out.below HB5.out) (by rw [HLT.out _ hn1]; exact (HL.out.below HBW5.out).take _) (fun y hy => HLX.out y (List.mem_of_mem_take (by rw [HM.out] at hy; exact hy))) (by have := HMN.out; omega)).mono ?_
        rintro e w6 ⟨rfl, hb6⟩
        have HB6 := hide hb6
        have HBW6 := hide (HBW5.out.trans (hb6.mono HBW5.out.size))
        clear hb6
        go_wp2_with fail
        refine (same_is (xs := l) (ys := l) rfl rfl rfl w6 (HR5.out.below HB6.out) (by have h := (HL.out.below HBW6.out).take l.length; rw [← HLT.out _ (Nat.le_refl _), List.take_length] at h; exact h) HLX.out (by omega)).mono ?_
        rintro e w7 ⟨rfl, hb7⟩
        have HBW7 := hide (HBW6.out.trans (hb7.mono HBW6.out.size))
        clear hb7
        go_wp2
        go_ret
        exact ⟨rfl, HBW7.out⟩
      · obtain ⟨n', rfl⟩ : ∃ n', n = n' + 1 := ⟨n - 1, by omega⟩
        obtain ⟨b, off, rfl, hbb, hc⟩ := ((Reads.of_own (HEL.out ▸ HQ.out)).below HB4.out).at_ (k := n') (by rw [List.length_map, HEL.out]; omega)
        have hck := hc n' (by rw [List.length_map, HEL.out]; omega)
        rw [getD_map_int _ _ (by rw [HEL.out]; omega), HEN.out, Frm.ends_at (by omega), ← HE1.out] at hck
        rw [show ((n' + 1 : Nat) : Int) = (n' : Int) + 1 by omega] at hs1
        have b1 : (n' : Int) < (l.length : Int) := by omega
        clear hc
        go_wp2_with fail
        refine (scan_is (xs := p) HSA.out rfl w4 ((Reads.of_own HO.out).below HB4.out) HOP.out (by omega) HC.out).mono ?_
        rintro e w5 ⟨L5, d5, rfl, hr5, _, hb5⟩
        have HR5 := hide hr5; have HB5 := hide hb5
        have HBW5 := hide ((HB2.out.trans (HB4.out.mono HB2.out.size)).trans (hb5.mono (Nat.le_trans HB2.out.size HB4.out.size)))
        clear hr5 hb5
        go_wp2_with fail
        refine (same_is (xs := m1) (ys := l.take (n' + 1)) rfl (by rw [List.length_take]; omega) HM.out w5 (HR4.out.below HB5.out) (by rw [HLT.out _ hn1]; exact (HL.out.below HBW5.out).take _) (fun y hy => HLX.out y (List.mem_of_mem_take (by rw [HM.out] at hy; exact hy))) (by have := HMN.out; omega)).mono ?_
        rintro e w6 ⟨rfl, hb6⟩
        have HB6 := hide hb6
        have HBW6 := hide (HBW5.out.trans (hb6.mono HBW5.out.size))
        clear hb6
        go_wp2_with fail
        refine (same_is (xs := l) (ys := l) rfl rfl rfl w6 (HR5.out.below HB6.out) (by have h := (HL.out.below HBW6.out).take l.length; rw [← HLT.out _ (Nat.le_refl _), List.take_length] at h; exact h) HLX.out (by omega)).mono ?_
        rintro e w7 ⟨rfl, hb7⟩
        have HBW7 := hide (HBW6.out.trans (hb7.mono HBW6.out.size))
        clear hb7
        go_wp2
        go_ret
        exact ⟨rfl, HBW7.out⟩
  · go_wp2
    go_ret
    exact ⟨rfl, HB2.out⟩

set_option maxRecDepth 100000 in
theorem frameTorn_lifted (os : Os) (started : os.Started) (H : Type) (enc : TypeId × Value → H) :
    ReturnsInHanded {} Try.checked os 4 .any (Rows.frameTornSpec.pre6 enc Try.prog Try.f4 Rows.frameTornRow.domain false) (Rows.frameTornSpec.post enc Try.prog Try.f4 false true false false) := by
  refine returnsInHanded_of_change_sized (C := Try.checked) (by kernel_rfl) started (by kernel_rfl) Try.func4
    (ChangeSpec.witness6 (enc := enc) (C := Try.checked) false ⟨#[], #[.slice none 0 0, .int .u16 0], []⟩ 8 (by kernel_rfl) (by kernel_rfl) (by kernel_rfl) (by kernel_rfl)) ?_
  intro W base args ds gs before hval0 hW _ hsz0 _
  have hval : ∀ (j : Nat) t v, Try.f4.params[j]? = some t → args[j]? = some v → Value.okWide Try.prog W .any base t v := hval0
  have hW' := hW
  obtain ⟨p, q, hA0, hV, rfl, _, _⟩ := hW
  have hA : DataW.TrodAll enc Try.prog W 0 (fun _ => true) true Try.f4.params.toList args.toList ds p := hA0
  have hsz : (DataW.weightsEach Try.prog (Try.f4.params.toList ++ Rows.frameTornSpec.plain.varTypes Try.prog) (ds ++ gs)).all (· ≤ reachBytes) = true := hsz0
  rw [Try.params4] at hA hval hsz
  obtain ⟨v0, v1, d0, d1, p0, p1, rfl, rfl, rfl, h0, h1⟩ := trodAll_two hA
  obtain ⟨x1, rfl, rfl, rfl, wf1⟩ := open_int Try.underlying31 (hval 1 31 v1 rfl rfl) h1
  have bd1 := bounds_u16 wf1
  obtain ⟨A0, cap0, n0, V, fuel, D, rfl, hnc, hcm, hR0, hel, hn0⟩ := open_rows Try.underlying30 (C := 1) (by kernel_rfl) (by omega) (hval 0 30 v0 rfl rfl) h0
  have hS0 : Sized Try.prog 30 d0 := sized_arg hsz (j := 0) rfl rfl
  have hSE : ∀ i, i < n0 → Sized Try.prog 22 (D i) := fun i hi => by rcases hn0 with h | ⟨el, sp, h1, _, h3⟩; omega; rw [h1] at hS0; exact hS0.elem Try.underlying30 (h3 i hi)
  obtain ⟨ls, rfl, hRL, hok, hle⟩ := rows_lists hR0 (fun i hi => by obtain ⟨B, c, zs, e1, _, _, hr, hwz, hl2⟩ := trod_nums Try.underlying22 Try.underlying5 (by kernel_rfl) (hel i hi).2.choose_spec; have hln := (hSE i hi).nums (m := 1) Try.underlying22 (by kernel_rfl) hl2; exact ⟨zs, B, c, e1, hr, fun z hz => (by have := bounds_u8 (hwz z hz); omega), by omega⟩)
  have hcm' : cap0 ≤ 9223372036854775807 := by unfold maxLen at hcm; omega
  refine (frameTorn_walk A0 cap0 ls x1 W hRL hok hle (by omega) (by omega) bd1.1 (by omega)).mono fun e W' ⟨he, hb⟩ => ?_
  subst he
  exact ⟨_, rfl, post_law (by kernel_rfl) (by kernel_rfl) rfl hW' (by rintro _ rfl; rfl) rfl Try.underlying4 hb⟩

theorem frameTorn_holds : Rows.FrameTornSaid :=
  OpenClaim.holds_of_wide 4 Try.f4 rfl rfl rfl rfl rfl rfl rfl ⟨rfl, rfl, rfl, rfl, rfl⟩ rfl rfl rfl rfl rfl (by kernel_rfl) Try.func4 (by kernel_rfl)
    (of_decide_eq_true (by kernel_rfl)) (by unfold Func.isWrapper; first | (rw [if_pos (by decide +kernel)]; kernel_rfl) | (rw [if_neg (by decide +kernel)]; exact ⟨rfl, rfl⟩))
    (fun os started H enc _ => frameTorn_lifted os started H enc)

end Go.Proofs.Ytodlabpgjgbbpaf
