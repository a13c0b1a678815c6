/-
  What row makes: frames, one behind the other, and where each ends.
-/
import Derived.Test.YtodlabpgjgbbpafFrmSame
import Derived.Test.YtodlabpgjgbbpafFrmWhole
namespace Go.Frm
/-- Where each frame ends. -/
def ends (l : List Row) : List Int := (List.range l.length).map fun i => ((puts (l.take (i + 1))).length : Int)
theorem ends_length (l : List Row) : (ends l).length = l.length := by simp [ends]
theorem ends_snoc {l : List Row} {i : Nat} (h : i < l.length) : ends (l.take (i + 1)) = ends (l.take i) ++ [((puts (l.take (i + 1))).length : Int)] := by
  unfold ends
  rw [List.length_take, List.length_take, Nat.min_eq_left (by omega), Nat.min_eq_left (by omega), List.range_succ, List.map_append]
  congr 1
  · refine List.map_congr_left fun j hj => ?_
    have := List.mem_range.1 hj
    rw [List.take_take, List.take_take, Nat.min_eq_left (by omega), Nat.min_eq_left (by omega)]
  · simp only [List.map_cons, List.map_nil]
    rw [List.take_take, Nat.min_self]
theorem ends_at {l : List Row} {i : Nat} (h : i < l.length) : (ends l).getD i 0 = ((puts (l.take (i + 1))).length : Int) := by
  unfold ends
  rw [List.getD_eq_getElem?_getD, List.getElem?_map, List.getElem?_range h]
  rfl
theorem puts_next {l : List Row} {i : Nat} (h : i < l.length) : puts (l.take (i + 1)) = puts (l.take i) ++ put (l.getD i []) := by
  rw [List.take_succ_eq_append_getElem h, puts_snoc, List.getD_eq_getElem?_getD, List.getElem?_eq_getElem h]
  rfl
theorem take_all {l : List Row} {i : Nat} (h : ∀ j, j < i → (l.getD j []).length ≤ 4096) : ∀ x ∈ l.take i, x.length ≤ 4096 := fun x hx => by
  obtain ⟨j, hj, rfl⟩ := List.getElem_of_mem hx
  rw [List.length_take] at hj
  have := h j (by omega)
  rw [List.getD_eq_getElem?_getD, List.getElem?_eq_getElem (by omega)] at this
  rw [List.getElem_take]
  exact this
end Go.Frm
namespace Go.Proofs.Ytodlabpgjgbbpaf
open Go.RowKit Go.Agio

theorem infoN : (Try.prog.info? 3).map (fun i => (i.zero, i.size, i.bytes)) = some (some (.int .i64 0), 1, 8) := by kernel_rfl
/-- Rows of two types lie apart. -/
theorem apart_types {w : World} {b1 b2 n m : Nat} {e t : TypeId} {u v : Value} {xs ys : List Value} (hu : w.ownsRow b1 e 1 u n xs) (hv : w.ownsRow b2 t 1 v m ys) (hne : e ≠ t) : Apart u v := fun g h1 h2 => by
  rcases hu.2 with ⟨he, _⟩ | ⟨g1, cap1, cur1, he, _, hh1, _⟩
  · rw [he] at h1; cases h1
  rcases hv.2 with ⟨hf, _⟩ | ⟨g2, cap2, cur2, hf, _, hh2, _⟩
  · rw [hf] at h2; cases h2
  rw [he] at h1; rw [hf] at h2
  have e1 : g1 = g := by simpa [Value.ownBlock] using h1
  have e2 : g2 = g := by simpa [Value.ownBlock] using h2
  subst e1 e2
  rw [hh1] at hh2
  injection hh2 with hh2
  injection hh2 with _ hh2
  exact hne hh2

/-- What row hands back. -/
def RowGot (ls : List (List Int)) (w : World) (e : Ending) (w' : World) : Prop :=
  Below w.heap.size w w' ∧ ((∃ A c B d, e = .returned (.tuple #[.slice A (Frm.puts ls).length c, .slice B ls.length d]) ∧ w'.ownsRow w.heap.size 5 1 (.slice A (Frm.puts ls).length c) (Frm.puts ls).length (bys (Frm.puts ls)) ∧
    w'.ownsRow w.heap.size 3 1 (.slice B ls.length d) ls.length ((Frm.ends ls).map (Value.int .i64)) ∧ (∀ x ∈ ls, x.length ≤ 4096) ∧ (Frm.puts ls).length ≤ 123120) ∨ e = .returned (.tuple #[.slice none 0 0, .slice none 0 0]))

set_option maxRecDepth 100000 in
set_option maxHeartbeats 8000000 in
theorem row_any (L : Option Addr) (cap : Nat) (ls : List (List Int)) (w : World) (hL : RowsRd w L ls) (hx : ∀ x ∈ ls, Frm.ok x) (hxl : ∀ x ∈ ls, x.length ≤ 140737488351232) (_hm : ls.length ≤ 9223372036854775807) :
    Calls Try.prog 12 #[.slice L ls.length cap] w (RowGot (ls.take 30) w) := by
  obtain ⟨i0, hi, hz0, hz1, hz2⟩ := info_parts info8
  obtain ⟨j0, hj, hy0, hy1, hy2⟩ := info_parts infoN
  have HL := hide hL; have HX := hide hx; have HXL := hide hxl
  clear hL hx hxl
  go_enter Try.func12, Try.ntmps12
  go_wp2_with fail
  go_loopw [4, 5, 6] (fun v u i wr => ∃ (k : Nat) (A : Option Addr) (c : Nat) (B : Option Addr) (d : Nat), k ≤ ls.length ∧ k ≤ 30 ∧ i = .int .i64 k ∧ v = .slice A (Frm.puts (ls.take k)).length c ∧ u = .slice B k d ∧
      wr.ownsRow w.heap.size 5 1 (.slice A (Frm.puts (ls.take k)).length c) (Frm.puts (ls.take k)).length (bys (Frm.puts (ls.take k))) ∧ wr.ownsRow w.heap.size 3 1 (.slice B k d) k ((Frm.ends (ls.take k)).map (Value.int .i64)) ∧
      (Frm.puts (ls.take k)).length ≤ k * 4104 ∧ (∀ j, j < k → (ls.getD j []).length ≤ 4096) ∧ Below w.heap.size w wr) (fun _ _ i _ => 30 - (intOf i).toNat)
  case atStart => exact ⟨0, none, 0, none, 0, Nat.zero_le _, by omega, rfl, rfl, rfl, World.ownsRow_nil _ _ _ _, World.ownsRow_nil _ _ _ _, by simp [Frm.puts], fun j hj => absurd hj (Nat.not_lt_zero _), Below.refl _ _⟩
  case round =>
    obtain ⟨k, A, c, B, d, hk, hk30, rfl, rfl, rfl, ho, hq, hlen, hall, hb⟩ := hrel
    have HO := hide ho; have HQ := hide hq; have HALL := hide hall; have HB := hide hb
    clear ho hq hall hb
    by_cases hlt : k < ls.length ∧ k < 30
    · obtain ⟨h1, h2⟩ := hlt
      obtain ⟨b, off, P, pc, rfl, hbs, hc, hr⟩ := (HL.out.below HB.out).at_ (k := k) h1
      have HE := hide (Frm.ends_snoc (l := ls) h1)
      have HN := hide (Frm.puts_next (l := ls) h1)
      have hok := HX.out (ls.getD k []) (by rw [List.getD_eq_getElem?_getD, List.getElem?_eq_getElem h1]; exact List.getElem_mem h1)
      have hxl := HXL.out (ls.getD k []) (by rw [List.getD_eq_getElem?_getD, List.getElem?_eq_getElem h1]; exact List.getElem_mem h1)
      have HAL := hide (fun (h : (ls.getD k []).length ≤ 4096) (j : Nat) (hj : j < k + 1) => show (ls.getD j []).length ≤ 4096 from by
        rcases Nat.lt_or_ge j k with h' | h'
        · exact HALL.out j h'
        · obtain rfl : j = k := by omega
          exact h)
      generalize ls.getD k [] = x at *
      have HRX := hide hr; have HOK := hide hok
      clear hr hok
      have a1 : (k : Int) < (ls.length : Int) := by omega
      have a2 : (k : Int) < 30 := by omega
      by_cases hfull : x.length ≤ 4096
      · have HPL := hide (Frm.put_length x)
        have HAL' := hide (HAL.out hfull)
        generalize hp : Frm.puts (ls.take k) = p at *
        generalize hen : Frm.ends (ls.take k) = en at *
        have HEN : Hid (en.length = k) := hide (by rw [← hen, Frm.ends_length, List.length_take]; omega)
        clear hp hen HAL
        go_wp2_with fail
        refine (put_any P pc x wr HRX.out HOK.out hfull).mono ?_
        rintro e w2 ⟨A2, c2, rfl, ho2, hb2⟩
        have hpl : 8 ≤ (Frm.put x).length := by have := HPL.out; omega
        have HO2 := hide ho2; have HB2 := hide hb2
        have HO1 := hide (own_below HO.out hb2)
        have HQ1 := hide (own_below HQ.out hb2)
        have HBW := hide (HB.out.trans (hb2.mono HB.out.size))
        have hs2 := hb2.size
        have hs1 := HB.out.size
        clear ho2 hb2 hc
        generalize hpx : Frm.put x = px at *
        clear hpx
        have hpx2 : px.length ≤ 4104 := by have := HPL.out; omega
        go_wp2_with (at_builtin; apply halted)
        refine unhalt (wpList_append_reads rfl (.tmp 34) (.tmp 35) 22 rfl w.heap.size 5 i0 (.int .u8 0) 1 Try.underlying22 hi hz0 hz1 hz2 rfl _ p.length (bys p) rfl HO1.out A2 px.length c2 (bys px) rfl (Reads.of_own HO2.out) (by rw [List.length_map]) (ints_one _ _) (by unfold maxLen; omega) (by omega) (by omega) ?_)
        intro A3 c3 w3 n3 g3 t3
        have HQ3 := hide (HQ1.out.kept g3 (by
          cases ho : Value.ownBlock (.slice B k d) with
          | none => exact .inl rfl
          | some g => exact .inr fun h => apart_types HQ1.out HO1.out (by decide) g ho h.symm))
        have HB3 := hide (HBW.out.grown g3 HBW.out.size (fun g hg => (HO1.out.lt g hg).1))
        have N3 := hide n3
        have hs3 := HB3.out.size
        clear n3 g3 t3
        go_wp2_with (at_builtin; apply halted)
        refine unhalt (wpList_append_reads rfl (.tmp 37) (.tmp 40) 32 rfl w.heap.size 3 j0 (.int .i64 0) 8 Try.underlying32 hj hy0 hy1 hy2 rfl _ k (en.map (Value.int .i64)) rfl (HQ3.out.alloc _) (some ⟨w3.heap.size, 0, none⟩) 1 1 [.int .i64 ((p.length + px.length : Nat) : Int)] (by simp [Act.eval]) (Reads.new_at _ _ _ _ _ rfl) rfl (one_one _ rfl) (by unfold maxLen; omega) (by omega) (by simp; omega) ?_)
        intro B4 d4 w4 n4 g4 t4
        have hbA : Below w3.heap.size w3 (w3.alloc (.cells #[.int .i64 ((p.length + px.length : Nat) : Int)] 3)) := (Below.refl _ _).alloc (Nat.le_refl _) _
        have N3' := hide ((N3.out.alloc (.cells #[.int .i64 ((p.length + px.length : Nat) : Int)] 3)).kept g4 (by
          cases ho : Value.ownBlock (.slice A3 (p.length + px.length) c3) with
          | none => exact .inl rfl
          | some g => exact .inr fun h => apart_types N3.out HQ3.out (by decide) g ho h.symm))
        have HB4 := hide ((HB3.out.alloc HB3.out.size _).grown g4 (by simp; omega) (fun g hg => (HQ3.out.lt g hg).1))
        have N4 := hide n4
        clear n4 g4 t4 hbA
        go_wp2
        go_roundw
        case rel => exact ⟨k + 1, A3, c3, B4, d4, by omega, by omega, by go_num, by rw [HN.out]; simp, rfl, by rw [HN.out, List.length_append]; simpa [bys] using N3'.out, by rw [HE.out, HN.out]; simpa using N4.out, by rw [HN.out, List.length_append]; omega, HAL'.out, HB4.out⟩
        case measure => simp [intOf]; omega
      · have hf : 4096 < x.length := by omega
        have F : Hid (RowGot (ls.take 30) w (.returned (.tuple #[.slice none 0 0, .slice none 0 0])) wr) := hide ⟨HB.out, .inr rfl⟩
        clear HALL HAL HE HN
        generalize Frm.puts (ls.take k) = p at *
        go_wp2_with fail
        refine (put_full P x.length pc wr hf (by omega)).mono ?_
        rintro e w2 ⟨rfl, rfl⟩
        go_wp2
        go_ret2
        exact F.out
    · have hks : ls.take k = ls.take 30 := by
        by_cases h1 : k < 30
        · have : k = ls.length := by omega
          rw [List.take_of_length_le (by omega), List.take_of_length_le (by omega)]
        · have : k = 30 := by omega
          rw [this]
      have F : Hid (RowGot (ls.take 30) w (.returned (.tuple #[.slice A (Frm.puts (ls.take k)).length c, .slice B k d])) wr) := hide (by
        have hkl : (ls.take k).length = k := by rw [List.length_take]; omega
        refine ⟨HB.out, .inl ⟨A, c, B, d, ?_, ?_, ?_, ?_, ?_⟩⟩
        · rw [← hks, hkl]
        · rw [← hks]; exact HO.out
        · rw [← hks, hkl]; exact HQ.out
        · rw [← hks]; exact Frm.take_all HALL.out
        · rw [← hks]; omega)
      generalize Frm.puts (ls.take k) = p at *
      by_cases h1 : k < ls.length
      · have h2 : (30 : Int) ≤ (k : Int) := by omega
        have h3 : (k : Int) < (ls.length : Int) := by omega
        clear hlt
        go_wp2
        go_ret2
        exact F.out
      · have h2 : (ls.length : Int) ≤ (k : Int) := by omega
        clear hlt
        go_wp2
        go_ret2
        exact F.out

end Go.Proofs.Ytodlabpgjgbbpaf
