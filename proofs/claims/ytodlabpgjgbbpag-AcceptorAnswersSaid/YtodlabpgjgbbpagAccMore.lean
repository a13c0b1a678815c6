/-
  What the acceptor's other functions do, and the laws' own answer to an ask.
-/
import Derived.Test.YtodlabpgjgbbpagAccWalks
namespace Go.Proofs.Ytodlabpgjgbbpag
open Go.RowKit Go.Agio

/-- An ask, as a value. -/
abbrev askv (a : Acc.Ask) (B : Option Addr) (cb : Nat) : Value := .agg #[.int .i64 a.r, .int .i64 a.t, .bool a.puts, .slice B a.val.length cb]

set_option maxHeartbeats 2000000 in
theorem answer_any (s : Acc.St) (A : Option Addr) (c : Nat) (a : Acc.Ask) (B : Option Addr) (cb : Nat) (w : World) (hR : Reads w A (bys s.val)) (hm : s.val.length ≤ 140737488355328) (hS : Reads w B (bys a.val)) (hv : a.val.length ≤ 140737488355328) :
    Calls Try.prog 11 #[stv s A c, askv a B cb] w (SGot w (Acc.answer s a) (Acc.answerOk s a)) := by
  have CA := hide (fun (W : World) (hb : Below w.heap.size w W) => accept_any s A c a.r a.t B cb a.val W (hR.below hb) hm (hS.below hb) hv)
  have CP := hide (fun (W : World) (hb : Below w.heap.size w W) => prepare_any s A c a.r a.t W (hR.below hb) hm)
  obtain ⟨pr, ps, sm, ar, as_, xs⟩ := s
  obtain ⟨r, t, puts, v⟩ := a
  unfold stv askv at *
  simp only [] at *
  generalize xs.length = n at *
  generalize v.length = m at *
  clear hR hS
  cases puts
  · have HA := hide (show Acc.answer ⟨pr, ps, sm, ar, as_, xs⟩ ⟨r, t, false, v⟩ = Acc.prepare ⟨pr, ps, sm, ar, as_, xs⟩ r t from rfl)
    have HO := hide (show Acc.answerOk ⟨pr, ps, sm, ar, as_, xs⟩ ⟨r, t, false, v⟩ = Acc.prepareOk ⟨pr, ps, sm, ar, as_, xs⟩ r t from rfl)
    rw [HA.out, HO.out]
    clear CA HA HO
    generalize Acc.prepare ⟨pr, ps, sm, ar, as_, xs⟩ r t = q at *
    generalize Acc.prepareOk ⟨pr, ps, sm, ar, as_, xs⟩ r t = ok at *
    go_enter Try.func11, Try.ntmps11
    go_wp2_with fail
    have hN := three_new w (.cells (stc pr ps sm ar as_ (.slice A n c)) 28) (.cells #[.int .i64 r, .int .i64 t, .bool false, .slice B m cb] 33) (.cells (stc 0 0 false 0 0 (.slice none 0 0)) 28)
    generalize ((w.alloc (.cells (stc pr ps sm ar as_ (.slice A n c)) 28)).alloc (.cells #[.int .i64 r, .int .i64 t, .bool false, .slice B m cb] 33)).alloc (.cells (stc 0 0 false 0 0 (.slice none 0 0)) 28) = W0 at *
    obtain ⟨K0, K1, K2, hs, hb⟩ := hN
    refine (CP.out W0 hb).mono ?_
    rintro e w1 ⟨A1, c1, rfl, R1, P1, hb1⟩
    replace K2 := (hb1.block _ (blk_lt K2)).trans K2
    obtain ⟨z0, z1, z2, z3, z4, z5⟩ := six_at K2
    obtain ⟨zf0, zf1, zf2, zf3, zf4, zf5⟩ := six_live K2
    have HR1 := hide R1; have HB1 := hide (below_next hb hb1)
    have HP := hide (show ∀ a, A1 = some a → w.heap.size + 3 ≤ a.block from fun a ha => by have := P1 a ha; omega)
    clear R1 P1 hb1 hb hs K0 K1 K2
    go_wp2
    refine bodyPost_ret (v := .tuple #[stv q A1 c1, .bool ok]) (by simp [results, Try.results11, go_sem, z0, z1, z2, z3, z4, z5]) rfl ?_
    exact ⟨A1, c1, rfl, fin_six (b := w.heap.size + 1 + 1) ⟨HR1.out, HB1.out⟩ (fun a ha => by have := HP.out a ha; omega) (by omega) _ _ _ _ _ _⟩
  · have HA := hide (show Acc.answer ⟨pr, ps, sm, ar, as_, xs⟩ ⟨r, t, true, v⟩ = Acc.accept ⟨pr, ps, sm, ar, as_, xs⟩ r t v from rfl)
    have HO := hide (show Acc.answerOk ⟨pr, ps, sm, ar, as_, xs⟩ ⟨r, t, true, v⟩ = Acc.acceptOk ⟨pr, ps, sm, ar, as_, xs⟩ r t from rfl)
    rw [HA.out, HO.out]
    clear CP HA HO
    generalize Acc.accept ⟨pr, ps, sm, ar, as_, xs⟩ r t v = q at *
    generalize Acc.acceptOk ⟨pr, ps, sm, ar, as_, xs⟩ r t = ok at *
    go_enter Try.func11, Try.ntmps11
    go_wp2_with fail
    have hN := three_new w (.cells (stc pr ps sm ar as_ (.slice A n c)) 28) (.cells #[.int .i64 r, .int .i64 t, .bool true, .slice B m cb] 33) (.cells (stc 0 0 false 0 0 (.slice none 0 0)) 28)
    generalize ((w.alloc (.cells (stc pr ps sm ar as_ (.slice A n c)) 28)).alloc (.cells #[.int .i64 r, .int .i64 t, .bool true, .slice B m cb] 33)).alloc (.cells (stc 0 0 false 0 0 (.slice none 0 0)) 28) = W0 at *
    obtain ⟨K0, K1, K2, hs, hb⟩ := hN
    refine (CA.out W0 hb).mono ?_
    rintro e w1 ⟨A1, c1, rfl, R1, P1, hb1⟩
    replace K2 := (hb1.block _ (blk_lt K2)).trans K2
    obtain ⟨z0, z1, z2, z3, z4, z5⟩ := six_at K2
    obtain ⟨zf0, zf1, zf2, zf3, zf4, zf5⟩ := six_live K2
    have HR1 := hide R1; have HB1 := hide (below_next hb hb1)
    have HP := hide (show ∀ a, A1 = some a → w.heap.size + 3 ≤ a.block from fun a ha => by have := P1 a ha; omega)
    clear R1 P1 hb1 hb hs K0 K1 K2
    go_wp2
    refine bodyPost_ret (v := .tuple #[stv q A1 c1, .bool ok]) (by simp [results, Try.results11, go_sem, z0, z1, z2, z3, z4, z5]) rfl ?_
    exact ⟨A1, c1, rfl, fin_six (b := w.heap.size + 1 + 1) ⟨HR1.out, HB1.out⟩ (fun a ha => by have := HP.out a ha; omega) (by omega) _ _ _ _ _ _⟩

set_option maxHeartbeats 2000000 in
theorem amay_any (s : Acc.St) (A : Option Addr) (c : Nat) (n : Int) (w : World) (hm : s.val.length ≤ 140737488355328) :
    Calls Try.prog 14 #[stv s A c, .int .i64 n] w fun e w' => e = .returned (.bool (Acc.mayBe s n)) ∧ Below w.heap.size w w' := by
  obtain ⟨pr, ps, sm, ar, as_, xs⟩ := s
  change xs.length ≤ _ at hm
  have H1 := hide (show Acc.mayBe ⟨pr, ps, sm, ar, as_, xs⟩ n = (Bal.may pr ps n && (if sm then Bal.may ar as_ n && decide (Bal.compare ar as_ pr ps ≤ 0) && decide (xs.length ≤ 2048) else decide (ar = 0 ∧ as_ = 0) && decide (xs.length = 0))) from rfl)
  unfold stv
  simp only []
  generalize Acc.mayBe ⟨pr, ps, sm, ar, as_, xs⟩ n = R at *
  generalize xs.length = k at *
  have C1 := hide (fun W => may_any pr ps n W)
  have C2 := hide (fun W => may_any ar as_ n W)
  have C3 := hide (fun W => compare_any ar as_ pr ps W)
  generalize Bal.may pr ps n = m1 at *
  generalize Bal.may ar as_ n = m2 at *
  generalize Bal.compare ar as_ pr ps = q at *
  have hk0 : (0 : Int) ≤ (k : Int) := by omega
  go_enter Try.func14, Try.ntmps14
  go_wp2_with fail
  refine (C1.out _).mono ?_
  rintro e w1 ⟨rfl, hb1⟩
  have K := (hb1.block _ (by simp)).trans (heap_new w (.cells (stc pr ps sm ar as_ (.slice A k c)) 28))
  obtain ⟨x0, x1, x2, x3, x4, x5⟩ := six_at K
  have K := hide K
  have hb := hide (below_next ((Below.refl w.heap.size w).alloc (Nat.le_refl _) (.cells (stc pr ps sm ar as_ (.slice A k c)) 28)) (hb1.mono (by simp)))
  clear hb1
  cases m1
  · have HF := hide (show R = false by rw [H1.out]; rfl)
    go_wp2
    go_ret
    exact ⟨by rw [HF.out]; rfl, hb.out⟩
  · cases sm
    · have HF := hide (show R = (decide (ar = 0 ∧ as_ = 0) && decide (k = 0)) by rw [H1.out]; simp)
      by_cases hk : k = 0
      all_goals go_wp2
      all_goals go_ret
      all_goals exact ⟨by rw [HF.out]; simp [*], hb.out⟩
    · go_wp2_with fail
      refine (C2.out _).mono ?_
      rintro e w2 ⟨rfl, hb2⟩
      clear x0 x1 x2 x3 x4 x5
      obtain ⟨x0, x1, x2, x3, x4, x5⟩ := six_at ((hb2.block _ (blk_lt K.out)).trans K.out)
      have K := hide ((hb2.block _ (blk_lt K.out)).trans K.out)
      have hb := hide (below_next hb.out hb2)
      clear hb2
      cases m2
      · have HF := hide (show R = false by rw [H1.out]; rfl)
        go_wp2
        go_ret
        exact ⟨by rw [HF.out]; rfl, hb.out⟩
      · have HF := hide (show R = (decide (q ≤ 0) && decide (k ≤ 2048)) by rw [H1.out]; simp)
        go_wp2_with fail
        refine (C3.out _).mono ?_
        rintro e w3 ⟨rfl, hb3⟩
        clear x0 x1 x2 x3 x4 x5
        obtain ⟨x0, x1, x2, x3, x4, x5⟩ := six_at ((hb3.block _ (blk_lt K.out)).trans K.out)
        have hb := hide (below_next hb.out hb3)
        clear hb3
        by_cases h1 : q ≤ 0
        · have t1 : decide (q ≤ 0) = true := by simpa using h1
          have HG := hide (show R = decide ((k : Int) ≤ 2048) by rw [HF.out]; simp [h1]; omega)
          go_wp2
          go_ret
          exact ⟨by rw [HG.out]; rfl, hb.out⟩
        · have t1 : decide (q ≤ 0) = false := by simpa using h1
          have HG := hide (show R = false by rw [HF.out]; simp [h1])
          go_wp2
          go_ret
          exact ⟨by rw [HG.out]; rfl, hb.out⟩

set_option maxHeartbeats 2000000 in
theorem arefmay_any (s : Acc.St) (A : Option Addr) (c : Nat) (n : Int) (w : World) (hm : s.val.length ≤ 140737488355328) :
    Calls Try.prog 21 #[stv s A c, .int .i64 n] w fun e w' => e = .returned (.bool (Acc.mayBe s n)) ∧ Below w.heap.size w w' := by
  obtain ⟨pr, ps, sm, ar, as_, xs⟩ := s
  change xs.length ≤ _ at hm
  have H1 := hide (show Acc.mayBe ⟨pr, ps, sm, ar, as_, xs⟩ n = (Bal.may pr ps n && (if sm then Bal.may ar as_ n && decide (Bal.compare ar as_ pr ps ≤ 0) && decide (xs.length ≤ 2048) else decide (ar = 0 ∧ as_ = 0) && decide (xs.length = 0))) from rfl)
  unfold stv
  simp only []
  generalize Acc.mayBe ⟨pr, ps, sm, ar, as_, xs⟩ n = R at *
  generalize xs.length = k at *
  have C1 := hide (fun W => rmay_any pr ps n W)
  have C2 := hide (fun W => rmay_any ar as_ n W)
  have C3 := hide (fun W => rcompare_any ar as_ pr ps W)
  generalize Bal.may pr ps n = m1 at *
  generalize Bal.may ar as_ n = m2 at *
  generalize Bal.compare ar as_ pr ps = q at *
  have hk0 : (0 : Int) ≤ (k : Int) := by omega
  go_enter Try.func21, Try.ntmps21
  go_wp2_with fail
  refine (C1.out _).mono ?_
  rintro e w1 ⟨rfl, hb1⟩
  have K := (hb1.block _ (by simp)).trans (heap_new w (.cells (stc pr ps sm ar as_ (.slice A k c)) 42))
  obtain ⟨x0, x1, x2, x3, x4, x5⟩ := six_at K
  have K := hide K
  have hb := hide (below_next ((Below.refl w.heap.size w).alloc (Nat.le_refl _) (.cells (stc pr ps sm ar as_ (.slice A k c)) 42)) (hb1.mono (by simp)))
  clear hb1
  cases m1
  · have HF := hide (show R = false by rw [H1.out]; rfl)
    go_wp2
    go_ret
    exact ⟨by rw [HF.out]; rfl, hb.out⟩
  · cases sm
    · have HF := hide (show R = (decide (ar = 0 ∧ as_ = 0) && decide (k = 0)) by rw [H1.out]; simp)
      by_cases hk : k = 0
      all_goals go_wp2
      all_goals go_ret
      all_goals exact ⟨by rw [HF.out]; simp [*], hb.out⟩
    · go_wp2_with fail
      refine (C2.out _).mono ?_
      rintro e w2 ⟨rfl, hb2⟩
      clear x0 x1 x2 x3 x4 x5
      obtain ⟨x0, x1, x2, x3, x4, x5⟩ := six_at ((hb2.block _ (blk_lt K.out)).trans K.out)
      have K := hide ((hb2.block _ (blk_lt K.out)).trans K.out)
      have hb := hide (below_next hb.out hb2)
      clear hb2
      cases m2
      · have HF := hide (show R = false by rw [H1.out]; rfl)
        go_wp2
        go_ret
        exact ⟨by rw [HF.out]; rfl, hb.out⟩
      · have HF := hide (show R = (decide (q ≤ 0) && decide (k ≤ 2048)) by rw [H1.out]; simp)
        go_wp2_with fail
        refine (C3.out _).mono ?_
        rintro e w3 ⟨rfl, hb3⟩
        clear x0 x1 x2 x3 x4 x5
        obtain ⟨x0, x1, x2, x3, x4, x5⟩ := six_at ((hb3.block _ (blk_lt K.out)).trans K.out)
        have hb := hide (below_next hb.out hb3)
        clear hb3
        by_cases h1 : q ≤ 0
        · have t1 : decide (q ≤ 0) = true := by simpa using h1
          have HG := hide (show R = decide ((k : Int) ≤ 2048) by rw [HF.out]; simp [h1]; omega)
          go_wp2
          go_ret
          exact ⟨by rw [HG.out]; rfl, hb.out⟩
        · have t1 : decide (q ≤ 0) = false := by simpa using h1
          have HG := hide (show R = false by rw [HF.out]; simp [h1])
          go_wp2
          go_ret
          exact ⟨by rw [HG.out]; rfl, hb.out⟩

set_option maxHeartbeats 2000000 in
theorem asame_any (s q : Acc.St) (A B : Option Addr) (c d : Nat) (w : World) (hA : Reads w A (bys s.val)) (hB : Reads w B (bys q.val)) (hx : ∀ z ∈ s.val, 0 ≤ z ∧ z ≤ 255) (hy : ∀ z ∈ q.val, 0 ≤ z ∧ z ≤ 255) :
    Calls Try.prog 20 #[stv s A c, stv q B d] w fun e w' => e = .returned (.bool (Acc.same s q)) ∧ Below w.heap.size w w' := by
  obtain ⟨pr, ps, sm, ar, as_, xs⟩ := s
  obtain ⟨pr', ps', sm', ar', as', ys⟩ := q
  have H1 := hide (show Acc.same ⟨pr, ps, sm, ar, as_, xs⟩ ⟨pr', ps', sm', ar', as', ys⟩ = (decide (pr = pr' ∧ ps = ps') && (sm == sm') && decide (ar = ar' ∧ as_ = as') && decide (xs = ys)) from rfl)
  unfold stv
  simp only [] at *
  generalize Acc.same ⟨pr, ps, sm, ar, as_, xs⟩ ⟨pr', ps', sm', ar', as', ys⟩ = R at *
  have CE := hide (fun (W : World) (hb : Below w.heap.size w W) => equal_any A B xs.length ys.length c d xs ys W (hA.below hb) (hB.below hb) rfl rfl hx hy)
  generalize xs.length = k at *
  generalize ys.length = m at *
  clear hA hB hx hy
  by_cases e1 : pr = pr'
  · by_cases e2 : ps = ps'
    · by_cases e3 : sm = sm'
      · by_cases e4 : ar = ar'
        · by_cases e5 : as_ = as'
          · subst e1 e2 e3 e4 e5
            have HF := hide (show R = decide (xs = ys) by rw [H1.out]; simp)
            go_enter Try.func20, Try.ntmps20
            go_wp2_with fail
            refine (CE.out _ (below_two _ _)).mono ?_
            rintro e w1 ⟨rfl, rfl⟩
            go_wp2
            go_ret
            exact ⟨by rw [HF.out]; rfl, below_two _ _⟩
          · have HF := hide (show R = false by rw [H1.out]; simp [e5])
            subst e1 e2 e3 e4
            cases sm
            all_goals go_enter Try.func20, Try.ntmps20
            all_goals go_wp2
            all_goals go_ret
            all_goals exact ⟨by rw [HF.out]; rfl, below_two _ _⟩
        · have HF := hide (show R = false by rw [H1.out]; simp [e4])
          subst e1 e2 e3
          cases sm
          all_goals go_enter Try.func20, Try.ntmps20
          all_goals go_wp2
          all_goals go_ret
          all_goals exact ⟨by rw [HF.out]; rfl, below_two _ _⟩
      · have HF := hide (show R = false by rw [H1.out]; simp [e3])
        subst e1 e2
        cases sm <;> cases sm'
        all_goals first | (exfalso; exact e3 rfl) | skip
        all_goals go_enter Try.func20, Try.ntmps20
        all_goals go_wp2
        all_goals go_ret
        all_goals exact ⟨by rw [HF.out]; rfl, below_two _ _⟩
    · have HF := hide (show R = false by rw [H1.out]; simp [e2])
      subst e1
      go_enter Try.func20, Try.ntmps20
      go_wp2
      go_ret
      exact ⟨by rw [HF.out]; rfl, below_two _ _⟩
  · have HF := hide (show R = false by rw [H1.out]; simp [e1])
    go_enter Try.func20, Try.ntmps20
    go_wp2
    go_ret
    exact ⟨by rw [HF.out]; rfl, below_two _ _⟩

set_option maxHeartbeats 2000000 in
theorem arefsame_any (s q : Acc.St) (A B : Option Addr) (c d : Nat) (w : World) (hA : Reads w A (bys s.val)) (hB : Reads w B (bys q.val)) (hx : ∀ z ∈ s.val, 0 ≤ z ∧ z ≤ 255) (hy : ∀ z ∈ q.val, 0 ≤ z ∧ z ≤ 255) :
    Calls Try.prog 19 #[stv s A c, stv q B d] w fun e w' => e = .returned (.bool (Acc.same s q)) ∧ Below w.heap.size w w' := by
  obtain ⟨pr, ps, sm, ar, as_, xs⟩ := s
  obtain ⟨pr', ps', sm', ar', as', ys⟩ := q
  have H1 := hide (show Acc.same ⟨pr, ps, sm, ar, as_, xs⟩ ⟨pr', ps', sm', ar', as', ys⟩ = (decide (pr = pr' ∧ ps = ps') && (sm == sm') && decide (ar = ar' ∧ as_ = as') && decide (xs = ys)) from rfl)
  unfold stv
  simp only [] at *
  generalize Acc.same ⟨pr, ps, sm, ar, as_, xs⟩ ⟨pr', ps', sm', ar', as', ys⟩ = R at *
  have q1 : ∀ W, Below w.heap.size w W → (convert 26 9 (.slice A xs.length c)).run Try.prog W = .ok (.string (strOfNums xs)) W := fun W hb => str_reads W A _ c xs (hA.below hb) rfl
  have q2 : ∀ W, Below w.heap.size w W → (convert 26 9 (.slice B ys.length d)).run Try.prog W = .ok (.string (strOfNums ys)) W := fun W hb => str_reads W B _ d ys (hB.below hb) rfl
  have Q1 := hide q1; have Q2 := hide q2; have HE := hide (str_beq hx hy)
  generalize xs.length = k at *
  generalize ys.length = m at *
  clear q1 q2
  clear hA hB hx hy
  by_cases e1 : pr = pr'
  · by_cases e2 : ps = ps'
    · by_cases e3 : sm = sm'
      · by_cases e4 : ar = ar'
        · by_cases e5 : as_ = as'
          · subst e1 e2 e3 e4 e5
            have HF := hide (show R = decide (xs = ys) by rw [H1.out]; simp)
            go_enter Try.func19, Try.ntmps19
            have q1 := Q1.out _ (below_two (.cells (stc pr ps sm ar as_ (.slice A k c)) 42) (.cells (stc pr ps sm ar as_ (.slice B m d)) 42))
            have q2 := Q2.out _ (below_two (.cells (stc pr ps sm ar as_ (.slice A k c)) 42) (.cells (stc pr ps sm ar as_ (.slice B m d)) 42))
            cases sm
            all_goals go_wp2
            all_goals go_ret
            all_goals exact ⟨by rw [HF.out, ← HE.out]; rfl, below_two _ _⟩
          · have HF := hide (show R = false by rw [H1.out]; simp [e5])
            subst e1 e2 e3 e4
            cases sm
            all_goals go_enter Try.func19, Try.ntmps19
            all_goals go_wp2
            all_goals go_ret
            all_goals exact ⟨by rw [HF.out]; rfl, below_two _ _⟩
        · have HF := hide (show R = false by rw [H1.out]; simp [e4])
          subst e1 e2 e3
          cases sm
          all_goals go_enter Try.func19, Try.ntmps19
          all_goals go_wp2
          all_goals go_ret
          all_goals exact ⟨by rw [HF.out]; rfl, below_two _ _⟩
      · have HF := hide (show R = false by rw [H1.out]; simp [e3])
        subst e1 e2
        cases sm <;> cases sm'
        all_goals first | (exfalso; exact e3 rfl) | skip
        all_goals go_enter Try.func19, Try.ntmps19
        all_goals go_wp2
        all_goals go_ret
        all_goals exact ⟨by rw [HF.out]; rfl, below_two _ _⟩
    · have HF := hide (show R = false by rw [H1.out]; simp [e2])
      subst e1
      go_enter Try.func19, Try.ntmps19
      go_wp2
      go_ret
      exact ⟨by rw [HF.out]; rfl, below_two _ _⟩
  · have HF := hide (show R = false by rw [H1.out]; simp [e1])
    go_enter Try.func19, Try.ntmps19
    go_wp2
    go_ret
    exact ⟨by rw [HF.out]; rfl, below_two _ _⟩

end Go.Proofs.Ytodlabpgjgbbpag
