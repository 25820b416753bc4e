/- The references: the functions that are called first. -/
import Derived.Test.YtflpgdlgfffigaaGreatCRefI
import Derived.Test.YtflpgdlgfffigaaGreatCRefL
set_option linter.unusedSimpArgs false
set_option linter.unusedVariables false
namespace Go.Proofs.YtflpgdlgfffigaaGreat
open Go Go.Abs
set_option maxRecDepth 8000
set_option maxHeartbeats 4000000

theorem called6_c (l : List Loaded) (hl : Short l ∧ ∀ x ∈ l, x.WF) (hb : l.length * 384 ≤ 140737488355328) (hok : loadedF l = Fault.ok) : RCall Tryz.prog 27 [.dat (.sl (l.map Loaded.enc))] (.dat (intsD (allF l))) := by
  have himg := imagesOf6_c l hb
  have hwf := imagesOf_wf hl
  obtain ⟨hc, hbad, hm⟩ := loaded_all hok
  obtain ⟨hc1, hc2, hc3⟩ := check_all hc
  rw [imagesOf_len] at hc1 hc2
  have hsort := first6_c (imagesOf l) hwf (by rw [imagesOf_len]; omega) (fun x hx => by have := image_needs (check_img hc hx); omega) hm
  have hnice := sortedF_nice (needRows (imagesOf l))
  rw [needRows_len, imagesOf_len] at hnice
  have hdef : allF l = callsOf l (sortedF (needRows (imagesOf l))) := rfl
  rw [hdef]
  generalize sortedF (needRows (imagesOf l)) = order at *
  unfold intsD at hsort
  obtain ⟨hno, hol⟩ := hnice
  refine rcall_of hmix [] Tryz.func27 (by kernel_rfl) rfl (by simp [Tryz.f27]) ?_
  simp -dsimp [Tryz.f27]
  refine callA himg ?_ rfl
  simp -dsimp
  refine callA hsort ?_ rfl
  simp -dsimp
  refine awp_loopN order.length (fun k s => s.t 5 = .dat (.int .i64 k) ∧ s.t 4 = .dat (.sl (order.map (.int .i64))) ∧ s.t 0 = .dat (.sl (l.map Loaded.enc)) ∧ Grows [43] 3 (s.t 3) (callsOf l (order.take k))) ⟨by simp, by simp, by simp, .inl ⟨rfl, by simp⟩⟩ ?_
  rintro k s hk ⟨h5, h4, h0, hgr⟩
  by_cases hlt : k < order.length
  · have hw : IntKind.i64.wrap ((k : Int) + 1) = k + 1 := wrap_in (by omega) (by omega)
    obtain ⟨i, hi⟩ : ∃ i, order[k]? = some i := ⟨_, List.getElem?_eq_getElem hlt⟩
    have hi' : order[k] = i := (List.getElem?_eq_some_iff.1 hi).2
    obtain ⟨hi0, hil⟩ := hno.2 i (List.mem_of_getElem? hi)
    obtain ⟨x, hx⟩ : ∃ x, l[i.toNat]? = some x := ⟨_, List.getElem?_eq_getElem (by omega)⟩
    have htake := callsOf_take (l := l) hi
    have hat : initsAt l i = x.image.inits.map fun a => W (a + x.bias) := by unfold initsAt; rw [hx]
    have hat60 := initsAt_len hok i
    have hil60 : x.image.inits.length ≤ 60 := by rw [hat] at hat60; simpa using hat60
    have hpre := callsOf_len hok (order.take k)
    have hpl : (order.take k).length ≤ 5 := by simp; omega
    have hag := Loaded.ag x
    have e9 := loaded_9 x
    have e9' := loaded_9' x
    have e19 := loaded_19 x
    have e19' := loaded_19' x
    generalize callsOf l (order.take k) = pre at hgr hpre htake
    have hgr0 : Grows [43] 3 ((s.t 3).kill 6) pre := by
      rcases hgr with ⟨a, b⟩ | ⟨d, hd, b⟩
      · exact .inl ⟨a, by rw [b]; rfl⟩
      · simp only [List.mem_singleton] at hd; subst hd
        exact .inr ⟨43, by simp, by rw [b]; rfl⟩
    simp -dsimp [h5, h4, h0, hlt, hi, hi', hi0, hx, hag.len, hag.ld, hag.mkT, hag.flats]
    refine awp_loopN x.image.inits.length (fun j s => s.t 7 = .dat (.int .i64 j) ∧ s.t 6 = .bptr 6 0 ∧ s.h 6 = some (x.enc.cells.map .dat) ∧ s.t 5 = .dat (.int .i64 k) ∧ s.t 4 = .dat (.sl (order.map (.int .i64))) ∧ s.t 0 = .dat (.sl (l.map Loaded.enc)) ∧ Grows [43] 3 (s.t 3) (pre ++ (initsAt l i).take j))
      ⟨by simp, by simp, by simp, by simp [h5], by simp [h4], by simp [h0], by simpa using hgr0⟩ ?_
    clear h5 h4 h0 hgr hgr0
    rintro j s1 hj ⟨h7, h6, hb6, h5, h4, h0, hgr⟩
    by_cases hjl : j < x.image.inits.length
    · have hwj : IntKind.i64.wrap ((j : Int) + 1) = j + 1 := wrap_in (by omega) (by omega)
      obtain ⟨a, ha⟩ : ∃ a, x.image.inits[j]? = some a := ⟨_, List.getElem?_eq_getElem hjl⟩
      have ha' : x.image.inits[j] = a := (List.getElem?_eq_some_iff.1 ha).2
      have hst : (initsAt l i).take (j + 1) = (initsAt l i).take j ++ [IntKind.i64.wrap (a + x.bias)] := by
        rw [hat, List.take_succ_eq_append_getElem (by simpa using hjl)]
        simp [ha', W]
      have hql : (pre ++ (initsAt l i).take j).length ≤ 1000 := by simp; omega
      have hsucc : pre ++ (initsAt l i).take (j + 1) = (pre ++ (initsAt l i).take j) ++ [IntKind.i64.wrap (a + x.bias)] := by rw [hst]; simp
      generalize pre ++ (initsAt l i).take j = q at hgr hql hsucc
      have b1 : (q.length + 1) * 8 ≤ 140737488355328 := by omega
      have b2 : q.length + 1 ≤ 9223372036854775807 := by omega
      have hkd : kills 43 (x.enc.cells.map PVal.dat) = x.enc.cells.map PVal.dat := by
        have : ∀ cs : List Dat, kills 43 (cs.map PVal.dat) = cs.map PVal.dat := by
          intro cs
          induction cs with
          | nil => rfl
          | cons c cs ih => simp only [List.map_cons, kills, PVal.kill, ih]
        exact this _
      rcases hgr with ⟨hq, h3⟩ | ⟨d, hd, h3⟩
      · subst hq
        simp -dsimp [h7, h6, hb6, h5, h4, h0, h3, hjl, ha, ha', hag.len, e9, e9', e19, e19', hwj, hsucc, hkd]
        exact ⟨show orderOk _ _ = true by kernel_rfl, .inr ⟨43, by simp, by simp⟩⟩
      · simp only [List.mem_singleton] at hd; subst hd
        simp -dsimp [h7, h6, hb6, h5, h4, h0, h3, hjl, ha, ha', hag.len, e9, e9', e19, e19', hwj, hsucc, b1, b2, hkd]
        exact ⟨show orderOk _ _ = true by kernel_rfl, .inr ⟨43, by simp, by simp⟩⟩
    · have hkl : j = x.image.inits.length := by omega
      subst hkl
      have hfull : (initsAt l i).take x.image.inits.length = initsAt l i := List.take_of_length_le (by rw [hat]; simp)
      rw [hfull, ← htake] at hgr
      simp -dsimp [h7, h6, hb6, h5, h4, h0, hag.len, e9, e9', hw, hlt]
      exact hgr
  · have hkl : k = order.length := by omega
    subst hkl
    rw [List.take_length] at hgr
    rcases hgr with ⟨hq, h3⟩ | ⟨d, hd, h3⟩
    · simp -dsimp [h5, h4, h0, h3, hq, intsD]
    · simp -dsimp [h5, h4, h0, h3, intsD]
end Go.Proofs.YtflpgdlgfffigaaGreat
