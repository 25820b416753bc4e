/- The law: Order and Find are as the specification says. -/
import Derived.Test.YtflpgdlgfffigaaGreatCRefH
import Derived.Test.YtflpgdlgfffigaaGreatCRefK
import Derived.Test.YtflpgdlgfffigaaGreatCOrder
set_option linter.unusedSimpArgs false
set_option linter.unusedVariables false
namespace Go.Proofs.YtflpgdlgfffigaaGreat
open Go Go.Abs
set_option maxRecDepth 8000
set_option maxHeartbeats 4000000

theorem order_form {l : List Image} (hc : checkF l = Fault.ok) : (missing l = none ∧ orderF l = (walkF (needRows l), Fault.ok) ∧ needsFault l = Fault.ok) ∨ ∃ i : Nat, orderF l = ([], ⟨6, i⟩) ∧ needsFault l = ⟨6, i⟩ := by
  unfold orderF needsFault
  rw [if_pos hc]
  cases hm : missing l with
  | none => exact .inl ⟨rfl, rfl, rfl⟩
  | some i => exact .inr ⟨i, rfl, rfl⟩

theorem lawScopeSpec_c (l : List Image) (hl : Short l ∧ ∀ x ∈ l, x.WF) (hb : l.length * Tryz.prog.bytesOf 80 ≤ reachBytes) (order : List Int) (ho : Short order ∧ ∀ n ∈ order, I64 n) (hob : order.length * Tryz.prog.bytesOf 3 ≤ reachBytes)
    (nm : Str) (hnm : ShortS nm) (v : Str) (hv : ShortS v) : RCall Tryz.prog 3 [.dat (.sl (l.map Image.enc)), .dat (.sl (order.map (.int .i64))), .dat (.str nm), .dat (.str v)] (.dat (.bool true)) := by
  have hol := ho.1
  unfold Short at hol
  have hord := order_c l hl
  have hfind := find_c l hl order ho.1 nm v
  have hchk := imagesFault_c l hl
  have hneeds := needsFault_c l hl
  rcases fault_cases (checkF l) with hs | ⟨c, n, hs, hne, hcn⟩
  · obtain ⟨hc1, hc2, hc3⟩ := check_all hs
    have hw1 : IntKind.i64.wrap ((l.length : Int) - 1) = (l.length : Int) - 1 := wrap_in (by omega) (by omega)
    have hff : findF l order nm v = if order.any (outside l.length) = true then ((0, 0, false), ⟨3, -2⟩) else (lookupF l nm v order, Fault.ok) := by unfold findF; rw [if_neg (by simp [hs])]
    rw [hs] at hchk
    simp only [Fault.enc, Fault.ok] at hchk
    obtain ⟨L, gc, gi, hof, hnf, hg⟩ : ∃ (L : List Int) (gc gi : Int), orderF l = (L, ⟨gc, gi⟩) ∧ needsFault l = ⟨gc, gi⟩ ∧ ((gc = 0 ∧ L = walkF (needRows l) ∧ missing l = none) ∨ (gc = 6 ∧ L = [])) := by
      rcases order_form hs with ⟨h1, h2, h3⟩ | ⟨i, h2, h3⟩
      · exact ⟨_, 0, 0, h2, h3, .inl ⟨rfl, rfl, h1⟩⟩
      · exact ⟨_, 6, i, h2, h3, .inr ⟨rfl, rfl⟩⟩
    rw [hof] at hord
    rw [hnf] at hneeds
    simp only [orderP, Fault.enc, intsD] at hord hneeds
    obtain ⟨fa, fb, fk, fc, fi, hfr, hf⟩ : ∃ (fa fb : Int) (fk : Bool) (fc fi : Int), findF l order nm v = ((fa, fb, fk), ⟨fc, fi⟩) ∧ ((order.any (outside l.length) = true ∧ fa = 0 ∧ fb = 0 ∧ fk = false ∧ fc = 3 ∧ fi = -2) ∨ (order.any (outside l.length) = false ∧ fc = 0 ∧ fi = 0 ∧ lookupF l nm v order = (fa, fb, fk))) := by
      rw [hff]
      by_cases ha : order.any (outside l.length) = true
      · exact ⟨0, 0, false, 3, -2, by rw [if_pos ha], .inl ⟨ha, rfl, rfl, rfl, rfl, rfl⟩⟩
      · exact ⟨_, _, _, 0, 0, by rw [if_neg ha]; rfl, .inr ⟨by simpa using ha, rfl, rfl, rfl⟩⟩
    rw [hfr] at hfind
    simp only [findP, Fault.enc] at hfind
    refine rcall_of hmix [] Tryz.func3 (by kernel_rfl) rfl (by simp [Tryz.f3]) ?_
    simp -dsimp [Tryz.f3]
    refine callA hord ?_ rfl
    simp -dsimp
    refine callA hfind ?_ rfl
    simp -dsimp
    refine callA hchk ?_ rfl
    simp -dsimp
    refine callA hneeds ?_ rfl
    simp -dsimp
    refine awp_loopN order.length (fun k s => s.t 17 = .dat (.int .i64 k) ∧ s.t 0 = .dat (.sl (l.map Image.enc)) ∧ s.t 1 = .dat (.sl (order.map (.int .i64))) ∧ s.t 2 = .dat (.str nm) ∧ s.t 3 = .dat (.str v) ∧ s.t 9 = .dat (.sl (L.map (.int .i64))) ∧ s.t 11 = .dat (.int .i64 fa) ∧ s.t 12 = .dat (.int .i64 fb) ∧ s.t 13 = .dat (.bool fk) ∧
      s.t 10 = .bptr 10 0 ∧ s.t 14 = .bptr 14 0 ∧ s.t 15 = .bptr 15 0 ∧ s.t 16 = .bptr 16 0 ∧ s.h 10 = some [.dat (.int .i64 gc), .dat (.int .i64 gi)] ∧ s.h 14 = some [.dat (.int .i64 fc), .dat (.int .i64 fi)] ∧ s.h 15 = some [.dat (.int .i64 gc), .dat (.int .i64 gi)] ∧
      ∃ a b, s.h 16 = some [.dat (.int .i64 a), .dat (.int .i64 b)] ∧ ((a = 0 ∧ b = 0 ∧ order.any (outside l.length) = (order.drop k).any (outside l.length)) ∨ (a = 3 ∧ b = -2 ∧ order.any (outside l.length) = true)))
      ⟨by simp, by simp, by simp, by simp, by simp, by simp, by simp, by simp, by simp, by simp, by simp, by simp, by simp, by simp, by simp, by simp, 0, 0, by simp, .inl ⟨rfl, rfl, by simp⟩⟩ ?_
    rintro k s hk ⟨h17, h0, h1, h2, h3, h9, h11, h12, h13, h10, h14, h15, h16, hb10, hb14, hb15, a, b, hb16, hab⟩
    by_cases hgo : k < order.length ∧ a = 0
    · obtain ⟨hlt, rfl⟩ := hgo
      have hw : IntKind.i64.wrap ((k : Int) + 1) = k + 1 := wrap_in (by omega) (by omega)
      obtain ⟨o, hoo⟩ : ∃ o, order[k]? = some o := ⟨_, List.getElem?_eq_getElem hlt⟩
      have hoo' : order[k] = o := (List.getElem?_eq_some_iff.1 hoo).2
      have hdrop : order.drop k = o :: order.drop (k + 1) := by rw [← hoo']; exact List.drop_eq_getElem_cons hlt
      obtain ⟨rfl, hany⟩ : b = 0 ∧ order.any (outside l.length) = (order.drop k).any (outside l.length) := by
        rcases hab with ⟨_, h, g⟩ | ⟨h, _⟩
        · exact ⟨h, g⟩
        · omega
      rw [hdrop, List.any_cons] at hany
      simp -dsimp [h17, h0, h1, h16, hb16, hlt, hoo, hoo', hw1]
      refine callA (ref5in_c _ _ _) ?_ rfl
      by_cases hin : 0 ≤ o ∧ o ≤ (l.length : Int) - 1
      · have hout : outside l.length o = false := by unfold outside; simp; omega
        rw [hout, Bool.false_or] at hany
        simp -dsimp [hin, h17, h0, h1, h2, h3, h9, h11, h12, h13, h10, h14, h15, h16, hb10, hb14, hb15, hb16, hw, hlt]
        exact ⟨0, 0, ⟨rfl, rfl⟩, .inl ⟨rfl, rfl, hany⟩⟩
      · have hout : outside l.length o = true := by unfold outside; simp; omega
        rw [hout, Bool.true_or] at hany
        have hd : (decide (0 ≤ o) && decide (o ≤ (l.length : Int) - 1)) = false := by simp; omega
        simp -dsimp [hd, h16, hb16]
        refine callA (at5_c _ _) ?_ rfl
        simp -dsimp [h17, h0, h1, h2, h3, h9, h11, h12, h13, h10, h14, h15, h16, hb10, hb14, hb15, hb16, hw, hlt]
        exact ⟨3, -2, ⟨rfl, rfl⟩, .inr ⟨rfl, rfl, List.any_eq_true.1 hany⟩⟩
    · have hfab : a = fc ∧ b = fi := by
        rcases hab with ⟨ha, hb, h⟩ | ⟨ha, hb, h⟩
        · have hk2 : k = order.length := by omega
          rw [hk2, List.drop_length] at h
          rcases hf with ⟨h', _⟩ | ⟨_, h1, h2, _⟩
          · rw [h] at h'; simp at h'
          · omega
        · rcases hf with ⟨_, _, _, _, h1, h2⟩ | ⟨h', _⟩
          · omega
          · rw [h] at h'; cases h'
      obtain ⟨rfl, rfl⟩ := hfab
      have hL : ∀ (hm : missing l = none), Short (walkF (needRows l)) ∧ RCall Tryz.prog 20 [.dat (.sl (l.map Image.enc))] (.dat (intsD (walkF (needRows l)))) := fun hm => by
        have h1 := walk_len (needRows_ok hm)
        rw [needRows_len] at h1
        exact ⟨by unfold Short; omega, searched6_c l hl (by omega) (fun x hx => by have := image_needs (check_img hs hx); omega) hm⟩
      have hfound : a = 0 → RCall Tryz.prog 21 [.dat (.sl (l.map Image.enc)), .dat (intsD order), .dat (.str nm), .dat (.str v)] (lookP (fa, fb, fk)) := fun ha => by
        rcases hf with ⟨_, _, _, _, h, _⟩ | ⟨h1, _, _, h2⟩
        · omega
        · rw [← h2]
          refine found6_c l hl order ho.1 (fun i hi => ?_) nm v
          rw [List.any_eq_false] at h1
          have := h1 i hi
          simp [outside] at this
          omega
      have hcond : ¬ (k < order.length ∧ a = 0) := hgo
      have tail : ∀ (b1 : Bool), True := fun _ => trivial
      by_cases hk1 : k < order.length
      · have ha3 : ¬ a = 0 := by omega
        have hfa : fa = 0 ∧ fb = 0 ∧ fk = false := by
          rcases hf with ⟨_, h1, h2, h3, _, _⟩ | ⟨_, h, _⟩
          · exact ⟨h1, h2, h3⟩
          · omega
        obtain ⟨rfl, rfl, rfl⟩ := hfa
        simp -dsimp [h17, h0, h1, h16, hb16, hk1, ha3]
        refine callA scopeEx_c ?_ rfl
        rcases hg with ⟨rfl, rfl, hm⟩ | ⟨rfl, rfl⟩
        · obtain ⟨q1, q2⟩ := hL hm
          have hints := ints_c _ _ q1 q1
          simp -dsimp [h17, h0, h1, h2, h3, h9, h11, h12, h13, h10, h14, h15, h16, hb10, hb14, hb15, hb16]
          refine callA q2 ?_ rfl
          simp -dsimp [h17, h0, h1, h2, h3, h9, h11, h12, h13, h10, h14, h15, h16, hb10, hb14, hb15, hb16, intsD]
          refine callA hints ?_ rfl
          simp -dsimp [h17, h0, h1, h2, h3, h9, h11, h12, h13, h10, h14, h15, h16, hb10, hb14, hb15, hb16, ha3]
        · simp -dsimp [h17, h0, h1, h2, h3, h9, h11, h12, h13, h10, h14, h15, h16, hb10, hb14, hb15, hb16, ha3]
      · rcases hg with ⟨rfl, rfl, hm⟩ | ⟨rfl, rfl⟩
        · obtain ⟨q1, q2⟩ := hL hm
          have hints := ints_c _ _ q1 q1
          simp -dsimp [h17, h0, h1, h16, hb16, hk1]
          refine callA scopeEx_c ?_ rfl
          simp -dsimp [h17, h0, h1, h2, h3, h9, h11, h12, h13, h10, h14, h15, h16, hb10, hb14, hb15, hb16]
          refine callA q2 ?_ rfl
          simp -dsimp [h17, h0, h1, h2, h3, h9, h11, h12, h13, h10, h14, h15, h16, hb10, hb14, hb15, hb16, intsD]
          refine callA hints ?_ rfl
          by_cases ha0 : a = 0
          · subst ha0
            simp -dsimp [h17, h0, h1, h2, h3, h9, h11, h12, h13, h10, h14, h15, h16, hb10, hb14, hb15, hb16]
            refine callA (hfound rfl) ?_ rfl
            simp -dsimp [lookP, h11, h12, h13]
          · obtain ⟨rfl, rfl, rfl⟩ : fa = 0 ∧ fb = 0 ∧ fk = false := by
              rcases hf with ⟨_, h1, h2, h3, _, _⟩ | ⟨_, h, _⟩
              · exact ⟨h1, h2, h3⟩
              · omega
            simp -dsimp [h17, h0, h1, h2, h3, h9, h11, h12, h13, h10, h14, h15, h16, hb10, hb14, hb15, hb16, ha0]
        · simp -dsimp [h17, h0, h1, h16, hb16, hk1]
          refine callA scopeEx_c ?_ rfl
          by_cases ha0 : a = 0
          · subst ha0
            simp -dsimp [h17, h0, h1, h2, h3, h9, h11, h12, h13, h10, h14, h15, h16, hb10, hb14, hb15, hb16]
            refine callA (hfound rfl) ?_ rfl
            simp -dsimp [lookP, h11, h12, h13]
          · obtain ⟨rfl, rfl, rfl⟩ : fa = 0 ∧ fb = 0 ∧ fk = false := by
              rcases hf with ⟨_, h1, h2, h3, _, _⟩ | ⟨_, h, _⟩
              · exact ⟨h1, h2, h3⟩
              · omega
            simp -dsimp [h17, h0, h1, h2, h3, h9, h11, h12, h13, h10, h14, h15, h16, hb10, hb14, hb15, hb16, ha0]
  · have hof : orderF l = ([], ⟨c, n⟩) := by unfold orderF; rw [if_neg hne, hs]
    have hff : findF l order nm v = ((0, 0, false), ⟨c, n⟩) := by unfold findF; rw [if_pos hne, hs]
    have hc0 : ¬ c = 0 := by
      rcases good_check l with g | g
      · exact absurd g hne
      · rw [hs] at g; exact g
    rw [hof] at hord
    rw [hff] at hfind
    rw [hs] at hchk
    simp only [orderP, findP, Fault.enc, intsD] at hord hfind hchk
    refine rcall_of hmix [] Tryz.func3 (by kernel_rfl) rfl (by simp [Tryz.f3]) ?_
    simp -dsimp [Tryz.f3]
    refine callA hord ?_ rfl
    simp -dsimp
    refine callA hfind ?_ rfl
    simp -dsimp
    refine callA hchk ?_ rfl
    simp -dsimp [hc0]
    refine awp_loopN 0 (fun k s => s.t 17 = .dat (.int .i64 0) ∧ s.t 1 = .dat (.sl (order.map (.int .i64))) ∧ s.t 9 = .dat (.sl []) ∧ s.t 11 = .dat (.int .i64 0) ∧ s.t 12 = .dat (.int .i64 0) ∧ s.t 13 = .dat (.bool false) ∧
      s.t 10 = .bptr 10 0 ∧ s.t 14 = .bptr 14 0 ∧ s.t 15 = .bptr 15 0 ∧ s.t 16 = .bptr 16 0 ∧ s.h 10 = some [.dat (.int .i64 c), .dat (.int .i64 n)] ∧ s.h 14 = some [.dat (.int .i64 c), .dat (.int .i64 n)] ∧ s.h 15 = some [.dat (.int .i64 c), .dat (.int .i64 n)] ∧ s.h 16 = some [.dat (.int .i64 c), .dat (.int .i64 n)])
      ⟨by simp, by simp, by simp, by simp, by simp, by simp, by simp, by simp, by simp, by simp, by simp, by simp, by simp, by simp⟩ ?_
    rintro k s hk ⟨h17, h1, h9, h11, h12, h13, h10, h14, h15, h16, hb10, hb14, hb15, hb16⟩
    by_cases hon : 0 < order.length
    · simp -dsimp [hon, hc0, h17, h1, h9, h11, h12, h13, h10, h14, h15, h16, hb10, hb14, hb15, hb16]
      refine callA scopeEx_c ?_ rfl
      simp -dsimp [hc0, h17, h1, h9, h11, h12, h13, h10, h14, h15, h16, hb10, hb14, hb15, hb16]
    · simp -dsimp [hon, hc0, h17, h1, h9, h11, h12, h13, h10, h14, h15, h16, hb10, hb14, hb15, hb16]
      refine callA scopeEx_c ?_ rfl
      simp -dsimp [hc0, h17, h1, h9, h11, h12, h13, h10, h14, h15, h16, hb10, hb14, hb15, hb16]
end Go.Proofs.YtflpgdlgfffigaaGreat
