/- The walk of digest.Add. Conditions: each lemma names its own. -/
import Derived.Test.YtldeigekagpekaaDoorDgFeed
import Derived.Deep.LoopGhost
set_option linter.unusedSimpArgs false
namespace Go.Proofs.YtldeigekagpekaaDoor.Dg
open Go.RowKit Go.Proofs.YtldeigekagpekaaDoorW.PrintWords Go.Proofs.YtldeigekagpekaaDoorW.PrintMore
set_option linter.unusedVariables false
set_option maxHeartbeats 4000000 in
set_option maxRecDepth 100000 in
theorem add_any (w : World) (g : Nat) (ok ok' : Nat → Prop) (t : Q) (m bs : List Int) (n : Int) (B : Option Addr) (cb : Nat) (hs : St w g ok t m n) (hb : Kd.C (Kd.int .u8) w B bs.length bs) (hc : bs.length ≤ cb) (hx : ∀ x ∈ bs, 0 ≤ x ∧ x < 256)
    (ht : Tab w) (hm : m.length < 64) (hl : bs.length ≤ 1000000) (n0 : 0 ≤ n) (n1 : n ≤ 1000000000000) (hok : bs = [] → ∀ k, ok k → ok' k) (hnew : bs ≠ [] → ∀ k, w.heap.size ≤ k → ok' k) :
    Calls Tryd.prog 13 #[.pointer (some ⟨g, 0, none⟩), .slice B bs.length cb] w fun e w' => e = .returned (.tuple #[]) ∧ St w' g ok' (feed t (m ++ bs)).1 (feed t (m ++ bs)).2 (n + bs.length) ∧ w.grownBy w' (some g) := by
  obtain ⟨A, c, hg, hr, hmc, hmb, hA, hin⟩ := hs
  have HG := Aside0.mk hg
  have HR := Aside0.mk hr
  have HB := Aside0.mk hb
  have HX := Aside0.mk (And.intro hx (And.intro hmb hA))
  have HT := Aside0.mk ht
  have HT0 := Aside0.mk ht
  have HI := Aside0.mk hin
  have HO := Aside0.mk (And.intro hok hnew)
  have c4 : w.cell? ⟨g, 4, none⟩ = some (.slice A m.length c) := (cell_of_row _ _ 4 _ _ _ hg).trans rfl
  have c5 : w.cell? ⟨g, 5, none⟩ = some (.int .i64 n) := (cell_of_row _ _ 5 _ _ _ hg).trans rfl
  have f5 : w.frozen? ⟨g, 5, none⟩ = false := blk_frozen hg 5
  have b0 : (bs.length : Int) ≤ 1000000 := by omega
  clear hg hr hb hx hmb hA ht hin hok hnew
  go_enter Tryd.func13, Tryd.ntmps13
  go_wp2_with fail
  have G1 := Aside0.mk (grown_set (World.grownBy.refl w (some g)) 5 (.int .i64 (n + bs.length)))
  have HG1 := Aside0.mk (show (w.setCell ⟨g, 5, none⟩ (.int .i64 (n + bs.length))).heap[g]? = some (.cells (stA t.1 t.2.1 t.2.2.1 t.2.2.2 (.slice A m.length c) (n + bs.length)) 48 (0, 0)) from blk_set HG.out 5 _)
  have far := C_far (by simp) HG.out HR.out
  have farB := C_far (by simp) HG.out HB.out
  have HN := Aside0.mk (tab_ne HT.out HG.out)
  have n_ := Aside0.mk (C_grown HR.out G1.out far); clear HR; have HR := n_; clear n_
  have n_ := Aside0.mk (C_grown HB.out G1.out farB); clear HB; have HB := n_; clear n_
  have n_ := Aside0.mk (tab_grown HT.out HN.out G1.out); clear HT; have HT := n_; clear n_
  clear far farB HG c4 c5 f5
  generalize w.setCell ⟨g, 5, none⟩ (.int .i64 (n + bs.length)) = w1 at *
  have c4 : w1.drew.cell? ⟨g, 4, none⟩ = some (.slice A m.length c) := (cell_of_row _ _ 4 _ _ _ HG1.out).trans rfl
  have c4' : w1.cell? ⟨g, 4, none⟩ = some (.slice A m.length c) := c4
  have e1 : (0 : Int) ≤ m.length := by omega
  have e2 : (m.length : Int) ≤ c := by omega
  have HRd : Kd.C (Kd.int .u8) w1.drew A m.length m := HR.out
  have HBd : Kd.C (Kd.int .u8) w1.drew B bs.length bs := HB.out
  obtain ⟨A2, c2, w2, hrun, hR2, hc2, hg2, ha2, hb2⟩ := append_full (cb := cb) HRd HBd (by omega)
  have H2 := Aside0.mk (And.intro hR2 (And.intro ha2 hb2))
  have G2 := Aside0.mk hg2
  have k4 : w2.cell? ⟨g, 4, none⟩ = some (.slice A m.length c) := hg2.cell c4 (by simp)
  have f4 : w2.frozen? ⟨g, 4, none⟩ = false := blk_frozen (blk_grown (w := w1.drew) (by exact HG1.out) hg2 (by simp)) 4
  clear hR2 ha2 hb2 hg2 HRd HBd
  rename_i K hK
  have rest : ∀ x4 x5 x6 x7 x8 x9 x10 x11 x12 x13 x14 x15 x16 x17 x18 x19 x20 x21 x22 x23 x24 x25 x26 x27 x28 x29 x30 x31 x32 : Value, K { tmps := #[.pointer (some ⟨g, 0, none⟩), .slice B bs.length cb, undef, undef, x4, x5, x6, x7, x8, x9, x10, x11, x12, x13, x14, x15, x16, x17, x18, x19, x20, x21, x22, x23, x24, x25, x26, x27, x28, x29, x30, x31, x32, undef, undef, undef, undef, undef, undef, undef, undef, undef, undef, undef, undef, undef, undef, undef, undef, undef, undef, undef, undef, undef], defers := [] } (w2.setCell ⟨g, 4, none⟩ (.slice A2 (m.length + bs.length) c2)) := by
    intro x4 x5 x6 x7 x8 x9 x10 x11 x12 x13 x14 x15 x16 x17 x18 x19 x20 x21 x22 x23 x24 x25 x26 x27 x28 x29 x30 x31 x32
    clear k4 f4 hrun c4 e1 e2
    have HG2 := Aside0.mk (show (w2.setCell ⟨g, 4, none⟩ (.slice A2 (m.length + bs.length) c2)).heap[g]? = some (.cells (stA t.1 t.2.1 t.2.2.1 t.2.2.2 (.slice A2 (m.length + bs.length) c2) (n + bs.length)) 48 (0, 0)) from blk_set (blk_grown (w := w1.drew) (by exact HG1.out) G2.out (by simp)) 4 _)
    have GG := Aside0.mk (grown_set (grown_trans (w1 := w1.drew) ⟨G1.out.os, G1.out.tape, G1.out.output, G1.out.size, G1.out.block⟩ G2.out (.inl rfl)) 4 (.slice A2 (m.length + bs.length) c2))
    have HL : Aside0 ((m ++ bs).length = m.length + bs.length) := ⟨by simp⟩
    have N0 : Aside0 (w2.grownBy (w2.setCell ⟨g, 4, none⟩ (.slice A2 (m.length + bs.length) c2)) (some g)) := ⟨grown_set (World.grownBy.refl w2 (some g)) 4 _⟩
    have HR2 : Aside0 (Kd.C (Kd.int .u8) (w2.setCell ⟨g, 4, none⟩ (.slice A2 (m.length + bs.length) c2)) A2 (m ++ bs).length (m ++ bs)) := ⟨C_grown H2.out.1 N0.out (C_far (v := .slice A m.length c) (by simp) (blk_grown (w := w1.drew) (w1 := w2) (row := none) (by exact HG1.out) G2.out (by simp)) H2.out.1)⟩
    have HM : Aside0 (∀ x ∈ m ++ bs, 0 ≤ x ∧ x < 256) := ⟨fun x hx => (List.mem_append.1 hx).elim (HX.out.2.1 x) (HX.out.1 x)⟩
    have HOK : Aside0 (∀ ad, A2 = some ad → 0 < (m ++ bs).length → ok' ad.block) := ⟨fun ad e hp => by
      by_cases hbs : bs = []
      · have ea := H2.out.2.1 hbs
        rw [ea] at e
        subst hbs
        rw [List.append_nil] at hp
        exact HO.out.1 rfl _ (HX.out.2.2 ad e hp)
      · obtain ⟨g8, e8, hb⟩ := H2.out.2.2 hbs
        rw [e8] at e
        obtain rfl := Option.some.inj e
        exact HO.out.2 hbs g8 (Nat.le_trans G1.out.size hb)⟩
    apply hK
    have hc3 : (m ++ bs).length ≤ c2 := by rw [HL.out]; exact hc2
    have HC3 := Aside0.mk hc3
    generalize hw3 : w2.setCell ⟨g, 4, none⟩ (.slice A2 (m.length + bs.length) c2) = w3 at *
    rw [← HL.out] at HG2
    clear hw3 hc3 hc2 N0 H2 G2 HG1 G1 HR HB HX HO
    go_wp2_with fail
    go_loopg [] (m ++ bs).length (fun kq wr => ∃ t' m' A' c', Aside0 (wr.heap[g]? = some (.cells (stA t'.1 t'.2.1 t'.2.2.1 t'.2.2.2 (.slice A' m'.length c') (n + bs.length)) 48 (0, 0))) ∧ Aside0 (Kd.C (Kd.int .u8) wr A' m'.length m') ∧ Aside0 (m'.length ≤ c') ∧ Aside0 (∀ x ∈ m', 0 ≤ x ∧ x < 256) ∧ Aside0 (∀ ad, A' = some ad → 0 < m'.length → ok' ad.block) ∧ Aside0 (InW t') ∧ Aside0 (feed t' m' = feed t (m ++ bs)) ∧ Aside0 (m'.length ≤ kq) ∧ Aside0 (w.grownBy wr (some g)))
    case atStart => exact ⟨t, m ++ bs, A2, c2, HG2, HR2, HC3, HM, HOK, HI, ⟨rfl⟩, ⟨Nat.le_refl _⟩, GG⟩
    case round =>
      clear HG2 HR2 HC3 HM HOK HI GG
      obtain ⟨t', m', A', c', HG, HR, HC, HM, HO, HI, HF, HK, GG⟩ := hrel
      have c4 : wr.cell? ⟨g, 4, none⟩ = some (.slice A' m'.length c') := (cell_of_row _ _ 4 _ _ _ HG.out).trans rfl
      have f4 : wr.frozen? ⟨g, 4, none⟩ = false := blk_frozen HG.out 4
      by_cases h64 : 64 ≤ m'.length
      · cases gk with
        | zero => exact absurd HK.out (by omega)
        | succ k1 =>
          have e1 : (64 : Int) ≤ m'.length := by omega
          have e2 : (64 : Int) ≤ c' := by have := HC.out; omega
          have TL : (m'.take 64).length = 64 := by rw [List.length_take]; omega
          have TC := Aside0.mk (Kd.C_take HR.out h64)
          have TB : Aside0 (∀ x ∈ m'.take 64, 0 ≤ x ∧ x < 256) := ⟨fun x hx => HM.out x (List.mem_of_mem_take hx)⟩
          have TT := Aside0.mk (tab_grown HT0.out HN.out GG.out)
          go_wp2_with fail
          have hE := eat_any wr g t' (.slice A' m'.length c') (n + bs.length) A' c' (m'.take 64) HG.out TC.out (by rw [TL]; omega) TL TB.out TT.out HI.out
          rw [TL] at hE
          refine hE.mono ?_
          rintro e w5 ⟨rfl, hg5, hgr5⟩
          have HG5 := Aside0.mk hg5
          have G5 := Aside0.mk hgr5
          have FAR := Aside0.mk (C_far (v := .slice A' m'.length c') (by simp) HG.out HR.out)
          have n_ := Aside0.mk (C_grown HR.out hgr5 FAR.out); clear HR; have HR := n_; clear n_
          have n_ := Aside0.mk (grown_trans GG.out hgr5 (.inr rfl)); clear GG; have GG := n_; clear n_
          clear hg5 hgr5 hE c4 f4 TC TB HG G5
          have c4 : w5.cell? ⟨g, 4, none⟩ = some (.slice A' m'.length c') := (cell_of_row _ _ 4 _ _ _ HG5.out).trans rfl
          have f4 : w5.frozen? ⟨g, 4, none⟩ = false := blk_frozen HG5.out 4
          obtain ⟨A5, hA5⟩ : ∃ A5, A5 = (if c' = 64 then A' else A'.map (·.add (64 * 1))) := ⟨_, rfl⟩
          have hsl : (Instr.slice 22 (.slice A' m'.length c') (some (.int .i64 64)) none none).run Tryd.prog w5 = .ok (.slice A5 (m'.drop 64).length (c' - 64)) w5 := by
            rw [hA5, List.length_drop]
            exact cut_from A' m'.length c' 64 h64 w5
          have HD : Aside0 (Kd.C (Kd.int .u8) w5 A5 (m'.drop 64).length (m'.drop 64)) := ⟨by rw [hA5]; exact Kd.C_drop HR.out h64 HC.out⟩
          have HO5 : Aside0 (∀ ad, A5 = some ad → 0 < (m'.drop 64).length → ok' ad.block) := ⟨by
            intro ad e hp
            rw [List.length_drop] at hp
            rw [hA5] at e
            by_cases hcc : c' = 64
            · rw [if_pos hcc] at e
              exact HO.out ad e (by omega)
            · rw [if_neg hcc] at e
              obtain ⟨ad0, e0, rfl⟩ := Option.map_eq_some_iff.1 e
              rw [add_block]
              exact HO.out ad0 e0 (by omega)⟩
          have HC5 : Aside0 ((m'.drop 64).length ≤ c' - 64) := ⟨by rw [List.length_drop]; have := HC.out; omega⟩
          have HM5 : Aside0 (∀ x ∈ m'.drop 64, 0 ≤ x ∧ x < 256) := ⟨fun x hx => HM.out x (List.mem_of_mem_drop hx)⟩
          have HF5 : Aside0 (feed (eatP (m'.take 64) t') (m'.drop 64) = feed t (m ++ bs)) := ⟨by rw [← feed_step h64]; exact HF.out⟩
          have HK5 : Aside0 ((m'.drop 64).length ≤ k1) := ⟨by rw [List.length_drop]; have := HK.out; omega⟩
          obtain ⟨md, hmd⟩ : ∃ md, md = m'.drop 64 := ⟨_, rfl⟩
          rw [← hmd] at hsl HD HO5 HC5 HM5 HF5 HK5
          clear hmd hA5
          go_wp2_with fail
          go_roundg k1
          case measure => omega
          case rel => exact ⟨eatP (m'.take 64) t', md, A5, c' - 64, ⟨blk_set HG5.out 4 _⟩, ⟨C_grown HD.out (grown_set (World.grownBy.refl w5 (some g)) 4 _) (C_far (v := .slice A' m'.length c') (by simp) HG5.out HD.out)⟩, HC5, HM5, HO5, ⟨eatP_in⟩, HF5, HK5, ⟨grown_set GG.out 4 _⟩⟩
      · have e1 : (m'.length : Int) < 64 := by omega
        go_wp2_with fail
        refine bodyPost_end (results_none rfl _ _ _) rfl ?_
        refine ⟨rfl, ?_, GG.out⟩
        rw [← HF.out, feed_done (by omega)]
        exact ⟨A', c', HG.out, HR.out, HC.out, HM.out, HO.out, HI.out⟩
  go_region_law (refine step_run rfl (.tmp 28) (.tmp 29) 22 rfl (by simp [Act.eval, Act.put]) (by simp [Act.eval, Act.put]) hrun ?_)
  all_goals exact rest _ _ _ _ _ _ _ _ _ _ _ _ _ _ _ _ _ _ _ _ _ _ _ _ _ _ _ _ _
end Go.Proofs.YtldeigekagpekaaDoor.Dg
