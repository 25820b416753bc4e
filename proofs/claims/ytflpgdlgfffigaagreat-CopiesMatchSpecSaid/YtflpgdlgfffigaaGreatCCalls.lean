/- The order of initialization; the calls at the start. -/
import Derived.Test.YtflpgdlgfffigaaGreatCoreC
import Derived.Test.YtflpgdlgfffigaaGreatCLoaded
set_option linter.unusedSimpArgs false
set_option linter.unusedVariables false
namespace Go.Proofs.YtflpgdlgfffigaaGreat
open Go Go.Abs
set_option maxRecDepth 8000
set_option maxHeartbeats 4000000

theorem all_c (l : List Loaded) (hl : Short l ∧ ∀ x ∈ l, x.WF) (hb : l.length * 384 ≤ 140737488355328) (hok : loadedF l = Fault.ok) : RCall Tryz.prog 66 [.dat (.sl (l.map Loaded.enc))] (.dat (intsD (allF l))) := by
  have himg := images_c l hb
  have hwf := imagesOf_wf hl
  obtain ⟨hc, hbad, hm⟩ := loaded_all hok
  obtain ⟨hc1, hc2, hc3⟩ := check_all hc
  rw [imagesOf_len] at hc1 hc2
  have hneeds := needs_c (imagesOf l) hwf (by rw [imagesOf_len]; omega) (fun x hx => by have := image_needs (check_img hc hx); omega)
  rw [needsR_ok hm] at hneeds
  have hsort := sorted_c (needRows (imagesOf l)) (by rw [needRows_len, imagesOf_len]; omega) (fun row hr => needRows_short hc row hr)
  have hnice := sortedF_nice (needRows (imagesOf l))
  rw [needRows_len, imagesOf_len] at hnice
  have hdef : allF l = callsOf l (sortedF (needRows (imagesOf l))) := rfl
  rw [hdef]
  generalize sortedF (needRows (imagesOf l)) = order at *
  unfold intsD at hsort
  obtain ⟨hno, hol⟩ := hnice
  refine rcall_of hmix [] Tryz.func66 (by kernel_rfl) rfl (by simp [Tryz.f66]) ?_
  simp -dsimp [Tryz.f66]
  refine callA himg ?_ rfl
  simp -dsimp
  refine callA hneeds ?_ rfl
  simp -dsimp
  refine callA hsort ?_ rfl
  simp -dsimp
  refine awp_loopN order.length (fun k s => s.t 21 = .dat (.int .i64 k) ∧ s.t 20 = .dat (.int .i64 order.length) ∧ s.t 19 = .dat (.sl (order.map (.int .i64))) ∧ s.t 0 = .dat (.sl (l.map Loaded.enc)) ∧ Grows [45] 3 (s.t 3) (callsOf l (order.take k))) ⟨by simp, by simp, by simp, by simp, .inl ⟨rfl, by simp⟩⟩ ?_
  rintro k s hk ⟨h21, h20, h19, h0, hgr⟩
  by_cases hlt : k < order.length
  · have hw : IntKind.i64.wrap ((k : Int) + 1) = k + 1 := wrap_in (by omega) (by omega)
    obtain ⟨i, hi⟩ : ∃ i, order[k]? = some i := ⟨_, List.getElem?_eq_getElem hlt⟩
    have hi' : order[k] = i := (List.getElem?_eq_some_iff.1 hi).2
    obtain ⟨hi0, hil⟩ := hno.2 i (List.mem_of_getElem? hi)
    obtain ⟨x, hx⟩ : ∃ x, l[i.toNat]? = some x := ⟨_, List.getElem?_eq_getElem (by omega)⟩
    have htake := callsOf_take (l := l) hi
    have hat : initsAt l i = x.image.inits.map fun a => W (a + x.bias) := by unfold initsAt; rw [hx]
    have hat60 := initsAt_len hok i
    have hil60 : x.image.inits.length ≤ 60 := by rw [hat] at hat60; simpa using hat60
    have hpre := callsOf_len hok (order.take k)
    have hpl : (order.take k).length ≤ 5 := by simp; omega
    have hag := Loaded.ag x
    have e9 := loaded_9 x
    have e9' := loaded_9' x
    have e19 := loaded_19 x
    have e19' := loaded_19' x
    generalize callsOf l (order.take k) = pre at hgr hpre htake
    simp -dsimp [h21, h20, h19, h0, hlt, hi, hi', hi0, hx, hag.len, hag.ld, hag.mkT, e9, e9']
    refine awp_loopN x.image.inits.length (fun j s => s.t 32 = .dat (.int .i64 j) ∧ s.t 31 = .dat (.int .i64 x.image.inits.length) ∧ s.t 30 = .dat (.sl (x.image.inits.map (.int .i64))) ∧ s.t 8 = .dat (.int .i64 i) ∧ s.t 21 = .dat (.int .i64 k) ∧ s.t 20 = .dat (.int .i64 order.length) ∧ s.t 19 = .dat (.sl (order.map (.int .i64))) ∧ s.t 0 = .dat (.sl (l.map Loaded.enc)) ∧ Grows [45] 3 (s.t 3) (pre ++ (initsAt l i).take j))
      ⟨by simp, by simp, by simp, by simp, by simp [h21], by simp [h20], by simp [h19], by simp [h0], by simpa using hgr⟩ ?_
    clear h21 h20 h19 h0 hgr
    rintro j s1 hj ⟨h32, h31, h30, h8, h21, h20, h19, h0, hgr⟩
    by_cases hjl : j < x.image.inits.length
    · have hwj : IntKind.i64.wrap ((j : Int) + 1) = j + 1 := wrap_in (by omega) (by omega)
      obtain ⟨a, ha⟩ : ∃ a, x.image.inits[j]? = some a := ⟨_, List.getElem?_eq_getElem hjl⟩
      have ha' : x.image.inits[j] = a := (List.getElem?_eq_some_iff.1 ha).2
      have hst : (initsAt l i).take (j + 1) = (initsAt l i).take j ++ [IntKind.i64.wrap (a + x.bias)] := by
        rw [hat, List.take_succ_eq_append_getElem (by simpa using hjl)]
        simp [ha', W]
      have hql : (pre ++ (initsAt l i).take j).length ≤ 1000 := by simp; omega
      have hsucc : pre ++ (initsAt l i).take (j + 1) = (pre ++ (initsAt l i).take j) ++ [IntKind.i64.wrap (a + x.bias)] := by rw [hst]; simp
      generalize pre ++ (initsAt l i).take j = q at hgr hql hsucc
      have b1 : (q.length + 1) * 8 ≤ 140737488355328 := by omega
      have b2 : q.length + 1 ≤ 9223372036854775807 := by omega
      rcases hgr with ⟨hq, h3⟩ | ⟨d, hd, h3⟩
      · subst hq
        simp -dsimp [h32, h31, h30, h8, h21, h20, h19, h0, h3, hjl, ha, ha', hi0, hx, hag.len, e19, e19', hwj, hsucc]
        exact .inr ⟨45, by simp, by simp⟩
      · simp -dsimp [h32, h31, h30, h8, h21, h20, h19, h0, h3, hjl, ha, ha', hi0, hx, hag.len, e19, e19', hwj, hsucc, b1, b2]
        exact .inr ⟨45, by simp, by simp⟩
    · have hkl : j = x.image.inits.length := by omega
      subst hkl
      have hfull : (initsAt l i).take x.image.inits.length = initsAt l i := List.take_of_length_le (by rw [hat]; simp)
      rw [hfull, ← htake] at hgr
      simp -dsimp [h32, h31, h30, h8, h21, h20, h19, h0, hw, hlt]
      exact hgr
  · have hkl : k = order.length := by omega
    subst hkl
    rw [List.take_length] at hgr
    rcases hgr with ⟨hq, h3⟩ | ⟨d, hd, h3⟩
    · simp -dsimp [h21, h20, h19, h0, h3, hq, intsD]
    · simp -dsimp [h21, h20, h19, h0, h3, intsD]

theorem calls_c (l : List Loaded) (hl : Short l ∧ ∀ x ∈ l, x.WF) (hb : l.length * 384 ≤ 140737488355328) : RCall Tryz.prog 23 [.dat (.sl (l.map Loaded.enc))] (orderP (callsF l)) := by
  have hchk := check_loaded_c l hl hb
  rcases fault_cases (loadedF l) with hs | ⟨c, n, hs, hne, hcn⟩
  · rw [hs] at hchk
    simp only [Fault.enc, Fault.ok] at hchk
    have hF : callsF l = (allF l, Fault.ok) := by unfold callsF; rw [if_pos hs]
    have hall := all_c l hl hb hs
    rw [hF]
    refine rcall_of hmix [] Tryz.func23 (by kernel_rfl) rfl (by simp [Tryz.f23]) ?_
    simp -dsimp [Tryz.f23]
    refine callA hchk ?_ rfl
    simp -dsimp [Fault.enc]
    refine callA hall ?_ rfl
    simp -dsimp [orderP, intsD, Fault.enc, Fault.ok]
  · rw [hs] at hchk
    simp only [Fault.enc] at hchk
    have hF : callsF l = ([], ⟨c, n⟩) := by unfold callsF; rw [if_neg hne, hs]
    rw [hF]
    refine rcall_of hmix [] Tryz.func23 (by kernel_rfl) rfl (by simp [Tryz.f23]) ?_
    simp -dsimp [Tryz.f23]
    refine callA hchk ?_ rfl
    simp -dsimp [Fault.enc, hcn, orderP, intsD]
    try kernel_rfl

def initsOrderF (l : List Image) : List Int × Fault := if checkF l = Fault.ok then match missing l with
    | some i => ([], ⟨6, i⟩)
    | none => (sortedF (needRows l), Fault.ok)
  else ([], checkF l)
theorem initsOrder_c (l : List Image) (hl : Short l ∧ ∀ x ∈ l, x.WF) : RCall Tryz.prog 22 [.dat (.sl (l.map Image.enc))] (orderP (initsOrderF l)) := by
  have hchk := check_images_c l hl
  rcases fault_cases (checkF l) with hs | ⟨c, n, hs, hne, hcn⟩
  · rw [hs] at hchk
    simp only [Fault.enc, Fault.ok] at hchk
    obtain ⟨hc1, hc2, hc3⟩ := check_all hs
    have hneeds := needs_c l hl (by omega) (fun x hx => by have := image_needs (check_img hs hx); omega)
    cases hm : missing l with
    | some i =>
      rw [needsR_bad hm] at hneeds
      have hF : initsOrderF l = ([], ⟨6, i⟩) := by unfold initsOrderF; rw [if_pos hs, hm]
      rw [hF]
      refine rcall_of hmix [] Tryz.func22 (by kernel_rfl) rfl (by simp [Tryz.f22]) ?_
      simp -dsimp [Tryz.f22]
      refine callA hchk ?_ rfl
      simp -dsimp [Fault.enc]
      refine callA hneeds ?_ rfl
      simp -dsimp [orderP, intsD, Fault.enc]
    | none =>
      rw [needsR_ok hm] at hneeds
      have hsort := sorted_c (needRows l) (by rw [needRows_len]; omega) (fun row hr => needRows_short hs row hr)
      have hF : initsOrderF l = (sortedF (needRows l), Fault.ok) := by unfold initsOrderF; rw [if_pos hs, hm]
      rw [hF]
      refine rcall_of hmix [] Tryz.func22 (by kernel_rfl) rfl (by simp [Tryz.f22]) ?_
      simp -dsimp [Tryz.f22]
      refine callA hchk ?_ rfl
      simp -dsimp [Fault.enc]
      refine callA hneeds ?_ rfl
      simp -dsimp [Fault.enc]
      refine callA hsort ?_ rfl
      simp -dsimp [orderP, intsD, Fault.enc, Fault.ok]
  · rw [hs] at hchk
    simp only [Fault.enc] at hchk
    have hF : initsOrderF l = ([], ⟨c, n⟩) := by unfold initsOrderF; rw [if_neg hne, hs]
    rw [hF]
    refine rcall_of hmix [] Tryz.func22 (by kernel_rfl) rfl (by simp [Tryz.f22]) ?_
    simp -dsimp [Tryz.f22]
    refine callA hchk ?_ rfl
    simp -dsimp [Fault.enc, hcn, orderP, intsD]
    try kernel_rfl

theorem both_c : RCall Tryz.prog 68 [] (.dat (.sl (bothI.map Loaded.enc))) := by
  have hm := main_c
  have hlb := lib_c
  simp only [mainI, libI, Image.enc, Image.cells, Segment.enc, Export.enc, Import.enc, List.map_cons, List.map_nil] at hm hlb
  refine rcall_of hmix [] Tryz.func68 (by kernel_rfl) rfl (by simp [Tryz.f68]) ?_
  simp -dsimp [Tryz.f68]
  refine callA hm ?_ rfl
  simp -dsimp
  refine callA hlb ?_ rfl
  simp -dsimp
  rfl
theorem initsEx_c : RCall Tryz.prog 25 [] (.dat (.bool true)) := by
  have ho := initsOrder_c pairI pairI_wf
  have hF : initsOrderF pairI = ([1, 0], Fault.ok) := by
    unfold initsOrderF
    rw [if_pos pair_check, show missing pairI = none by decide +kernel, pair_sorted]
  rw [hF] at ho
  have hc := calls_c bothI bothI_wf (by decide)
  rw [both_calls] at hc
  simp only [orderP, Fault.enc, Fault.ok, intsD] at ho hc
  have hi := ints_c [1, 0] [1, 0] (by simp [Short]) (by simp [Short])
  have hi2 := ints_c [4608] [4608] (by simp [Short]) (by simp [Short])
  unfold intsD at hi hi2
  refine rcall_of hmix [] Tryz.func25 (by kernel_rfl) rfl (by simp [Tryz.f25]) ?_
  simp -dsimp [Tryz.f25]
  refine callA pair_c ?_ rfl
  simp -dsimp
  refine callA ho ?_ rfl
  simp -dsimp
  refine callA both_c ?_ rfl
  simp -dsimp
  refine callA hc ?_ rfl
  simp -dsimp
  refine callA hi ?_ rfl
  simp -dsimp
  refine callA hi2 ?_ rfl
  simp -dsimp
end Go.Proofs.YtflpgdlgfffigaaGreat
