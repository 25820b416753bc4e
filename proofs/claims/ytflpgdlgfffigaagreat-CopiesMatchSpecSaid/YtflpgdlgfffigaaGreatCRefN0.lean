/- The references: what defines an import. -/
import Derived.Test.YtflpgdlgfffigaaGreatCoreC
import Derived.Test.YtflpgdlgfffigaaGreatCRefI0
import Derived.Test.YtflpgdlgfffigaaGreatCRefK
set_option linter.unusedSimpArgs false
set_option linter.unusedVariables false
namespace Go.Proofs.YtflpgdlgfffigaaGreat
open Go Go.Abs
set_option maxRecDepth 8000
set_option maxHeartbeats 4000000

theorem defined6_c (l : List Loaded) (hl : Short l ∧ ∀ x ∈ l, x.WF) (hb : l.length * 384 ≤ 140737488355328) (hok : loadedF l = Fault.ok) (im : Nat) (y : Loaded) (hy : l[im]? = some y) (k : Nat) (m : Import) (hm : y.image.imports[k]? = some m) :
    RCall Tryz.prog 72 [.dat (.sl (l.map Loaded.enc)), .dat (.int .i64 im), .dat (.int .i64 k)] (lookP (foundAt l im m)) := by
  obtain ⟨hone, holen, hoin⟩ := orderOf_facts hok
  obtain ⟨hc, hbad, hmis⟩ := loaded_all hok
  obtain ⟨hc1, hc2, hc3⟩ := check_all hc
  rw [imagesOf_len] at hc1 hc2
  have hwf := imagesOf_wf hl
  have himg := imagesOf6_c l hb
  have hsea : RCall Tryz.prog 20 [.dat (.sl ((imagesOf l).map Image.enc))] (.dat (intsD (orderOf l))) := searched6_c (imagesOf l) hwf (by rw [imagesOf_len]; omega) (fun x hx => by have := image_needs (check_img hc hx); omega) hmis
  have hfo : foundAt l im m = lookupF (imagesOf l) m.name m.version ((orderOf l).filter fun v => !decide (v = (im : Int))) := rfl
  rw [hfo]
  have hfound := found6_c (imagesOf l) hwf ((orderOf l).filter fun v => !decide (v = (im : Int))) (by unfold Short; have := List.length_filter_le (fun v : Int => !decide (v = (im : Int))) (orderOf l); omega) (fun i hi => by rw [imagesOf_len]; exact hoin i (List.mem_filter.1 hi).1) m.name m.version
  have himl : im < l.length := (List.getElem?_eq_some_iff.1 hy).1
  have hiy : (imagesOf l)[im]? = some y.image := by unfold imagesOf; rw [List.getElem?_map, hy]; rfl
  have himl2 : im < (imagesOf l).length := by rw [imagesOf_len]; exact himl
  have hiy' : ∀ h, (imagesOf l)[im]'h = y.image := fun h => (List.getElem?_eq_some_iff.1 hiy).2
  have hkl : k < y.image.imports.length := (List.getElem?_eq_some_iff.1 hm).1
  have hm' : y.image.imports[k] = m := (List.getElem?_eq_some_iff.1 hm).2
  have hag := Image.ag y.image
  have hagm := Import.ag m
  have i5 : y.image.enc.cells[5]? = some (.sl (y.image.imports.map Import.enc)) := rfl
  have i5' : ∀ h, y.image.enc.cells[5]'h = .sl (y.image.imports.map Import.enc) := fun _ => rfl
  generalize orderOf l = order at *
  generalize imagesOf l = images at *
  unfold intsD at hsea hfound
  refine rcall_of hmix [] Tryz.func72 (by kernel_rfl) rfl (by simp [Tryz.f72]) ?_
  simp -dsimp [Tryz.f72]
  refine callA himg ?_ rfl
  simp -dsimp
  refine callA hsea ?_ rfl
  simp -dsimp
  refine awp_loopN order.length (fun j s => s.t 12 = .dat (.int .i64 j) ∧ s.t 10 = .dat (.sl (order.map (.int .i64))) ∧ s.t 9 = .dat (.sl (images.map Image.enc)) ∧ s.t 1 = .dat (.int .i64 im) ∧ s.t 2 = .dat (.int .i64 k) ∧ Grows [36] 3 (s.t 11) ((order.take j).filter fun v => !decide (v = (im : Int))))
    ⟨by simp, by simp, by simp, by simp, by simp, .inl ⟨by simp, by simp⟩⟩ ?_
  rintro j s hj ⟨h12, h10, h9, h1, h2, hgr⟩
  by_cases hlt : j < order.length
  · have hw : IntKind.i64.wrap ((j : Int) + 1) = j + 1 := wrap_in (by omega) (by omega)
    obtain ⟨v, hv⟩ : ∃ v, order[j]? = some v := ⟨_, List.getElem?_eq_getElem hlt⟩
    have hv' : order[j] = v := (List.getElem?_eq_some_iff.1 hv).2
    have htk : (order.take (j + 1)).filter (fun v => !decide (v = (im : Int))) = (order.take j).filter (fun v => !decide (v = (im : Int))) ++ (if v = (im : Int) then [] else [v]) := by
      rw [List.take_succ_eq_append_getElem hlt, hv', List.filter_append]
      congr 1
      by_cases e : v = (im : Int) <;> simp [e]
    have hql : ((order.take j).filter (fun v => !decide (v = (im : Int)))).length ≤ 1000 := by
      have := List.length_filter_le (fun v : Int => !decide (v = (im : Int))) (order.take j)
      simp at this
      omega
    generalize (order.take j).filter (fun v => !decide (v = (im : Int))) = q at *
    have b1 : (q.length + 1) * 8 ≤ 140737488355328 := by omega
    have b2 : q.length + 1 ≤ 9223372036854775807 := by omega
    by_cases e : v = (im : Int)
    · rw [if_pos e, List.append_nil] at htk
      simp -dsimp [h12, h10, h9, h1, h2, hlt, hv, hv', e, hw, htk]
      exact hgr
    · rw [if_neg e] at htk
      rcases hgr with ⟨hq, h11⟩ | ⟨d, hd, h11⟩
      · subst hq
        simp -dsimp [h12, h10, h9, h1, h2, h11, hlt, hv, hv', e, hw, htk]
        exact .inr ⟨36, by simp, by simp⟩
      · simp only [List.mem_singleton] at hd; subst hd
        simp -dsimp [h12, h10, h9, h1, h2, h11, hlt, hv, hv', e, hw, htk, b1, b2]
        exact .inr ⟨36, by simp, by simp⟩
  · have hje : j = order.length := by omega
    subst hje
    rw [List.take_length] at hgr
    generalize order.filter (fun v => !decide (v = (im : Int))) = q at *
    have hn0 : m.enc.cells[0]? = some (.str m.name) := rfl
    have hn0' : ∀ h, m.enc.cells[0]'h = .str m.name := fun _ => rfl
    have hn1 : m.enc.cells[1]? = some (.str m.version) := rfl
    have hn1' : ∀ h, m.enc.cells[1]'h = .str m.version := fun _ => rfl
    rcases hgr with ⟨hq, h11⟩ | ⟨d, hd, h11⟩
    · subst hq
      simp -dsimp [h12, h10, h9, h1, h2, h11, himl2, hiy, hiy', hag.len, i5, i5', hkl, hm, hm', hagm.len, hagm.ld, hagm.mkT, hagm.flats, hagm.mk, hn0, hn0', hn1, hn1']
      refine callA hfound ?_ rfl
      simp -dsimp [lookP]
    · simp only [List.mem_singleton] at hd; subst hd
      simp -dsimp [h12, h10, h9, h1, h2, h11, himl2, hiy, hiy', hag.len, i5, i5', hkl, hm, hm', hagm.len, hagm.ld, hagm.mkT, hagm.flats, hagm.mk, hn0, hn0', hn1, hn1']
      refine callA hfound ?_ rfl
      simp -dsimp [lookP]
end Go.Proofs.YtflpgdlgfffigaaGreat
