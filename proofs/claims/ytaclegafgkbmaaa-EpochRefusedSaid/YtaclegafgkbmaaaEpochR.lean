/-
  The walk of the law EpochRefused. Conditions: none.
-/
import Derived.Test.YtaclegafgkbmaaaEpochZ
namespace Go.Proofs.Ytaclegafgkbmaaa
open Go.RowKit

theorem int_info : (Try.prog.info? 3).map (fun i => (i.zero, i.size, i.bytes)) = some (some (.int .i64 0), 1, 8) := by kernel_rfl
theorem iarr_length (l : List Int) : (iarr l).length = l.length := by simp [iarr]
theorem iarr_take (ins : List Int) (j : Nat) (h : j < ins.length) : iarr (ins.take j) ++ [.int .i64 (ins.getD j 0)] = iarr (ins.take (j + 1)) := by
  rw [List.take_succ_eq_append_getElem h, List.getD_eq_getElem?_getD, List.getElem?_eq_getElem h]
  unfold iarr
  rw [List.map_append]
  rfl
theorem ClockAt.only {w w' : World} {g gi q : Nat} {now : Int} {ins : List Int} (h : ClockAt w g gi now ins) (hn : Only w w' q) (h1 : g ≠ q) (h2 : gi ≠ q) : ClockAt w' g gi now ins := ⟨h.1.only hn h1, h.2.only hn h2⟩

set_option maxRecDepth 100000 in
set_option maxHeartbeats 4000000 in
theorem refused_walk (w : World) (N : Nat) (hN1 : 1 ≤ N) (hN4 : N ≤ 4) (script : List OpE) (A : Option Addr) (c n : Nat) (hn : n = script.length) (hm : n ≤ 17592186044416) (hr : 0 < n → ∃ b o, A = some ⟨b, o, none⟩ ∧ b < w.heap.size ∧ ∀ i, i < script.length → OpAt w b (o + i * 3) (script.getD i op0) ∧ OpOk w (script.getD i op0)) :
    Calls Try.prog 3 #[.int .i64 N, .slice A n c] w fun e w' => e = .returned (.bool true) ∧ Below w.heap.size w w' := by
  obtain ⟨i0, hi0, hz0, hz1, hz2⟩ := info_parts int_info
  have HN := Lib.hid hn
  have HR := Lib.hid hr
  clear hn hr
  go_enter Try.func3, Try.ntmps3
  go_wp2_with fail
  refine (awake_any w).mono ?_
  rintro e wa ⟨rfl, hba⟩
  have HBA := Lib.hid hba
  clear hba
  go_wp2_with fail
  refine (new_ok wa N hN1 hN4).mono ?_
  rintro e w1 ⟨g, gi, rfl, hg, hgi, h1, b1⟩
  have C1 := Lib.hid h1
  have B1 := Lib.hid (HBA.out.trans (b1.mono HBA.out.size))
  have hg0 : w.heap.size ≤ g := Nat.le_trans HBA.out.size hg
  have hgi0 : w.heap.size ≤ gi := Nat.le_trans HBA.out.size hgi
  clear h1 b1 hg hgi HBA
  go_wp2_with fail
  go_loopw [7] (fun i wr => ∃ (k : Nat) (now : Int) (ins : List Int), k ≤ n ∧ i = .int .i64 k ∧ ClockAt wr g gi now ins ∧ ins.length = N ∧ 1 ≤ now ∧ now ≤ (k : Int) + 1 ∧ Pos ins ∧ Below w.heap.size w wr) (fun i _ => n - (intOf i).toNat)
  case atStart => exact ⟨0, 1, List.replicate N 0, Nat.zero_le _, rfl, C1.out, List.length_replicate, by omega, by omega, fun x hx => by rw [List.mem_replicate] at hx; omega, B1.out⟩
  case round =>
    obtain ⟨k, now, ins, hk, rfl, hc, hln, hn1, hnk, hpos, hb⟩ := hrel
    have C := Lib.hid hc
    have HLN := Lib.hid hln
    have HPOS := Lib.hid hpos
    have B := Lib.hid hb
    clear hc hln hpos hb C1 B1
    by_cases hlt : k < n
    · have g1 : (k : Int) < (n : Int) := by omega
      obtain ⟨b, o, rfl, hbl, hop⟩ := HR.out (by omega)
      have hkl : k < script.length := by have := HN.out; omega
      have HX0 := Lib.hid (hop k hkl).2
      obtain ⟨c0, c1, c2⟩ := (hop k hkl).1.below hbl B.out
      clear hop
      generalize script.getD k op0 = x at c0 c1 c2 HX0
      have OX : Hid (Ob (wr.alloc (.cells #[.int .i64 x.kind, .int .i64 x.wk, .slice x.A x.ws.length x.cap] 30)) wr.heap.size 30 (opc x)) := Lib.hid (Ob.fresh wr 30 (opc x))
      have CX := Lib.hid (C.out.below (below_alloc (Below.refl wr.heap.size wr) (.cells #[.int .i64 x.kind, .int .i64 x.wk, .slice x.A x.ws.length x.cap] 30)))
      have BX := Lib.hid (below_alloc B.out (.cells #[.int .i64 x.kind, .int .i64 x.wk, .slice x.A x.ws.length x.cap] 30))
      go_upto_region 10 with fail
      generalize wr.alloc (.cells #[.int .i64 x.kind, .int .i64 x.wk, .slice x.A x.ws.length x.cap] 30) = wx at OX CX BX ⊢
      have hgq : g < wr.heap.size := C.out.1.lt
      have hgiq : gi < wr.heap.size := C.out.2.lt
      clear C
      generalize wr.heap.size = q at OX hgq hgiq ⊢
      clear c0 c1 c2 B
      go_wp2_with fail
      go_loopw [9, 10] (fun u i wq => ∃ j : Nat, j ≤ N ∧ i = .int .i64 j ∧ wq.ownsRow w.heap.size 3 1 u j (iarr (ins.take j)) ∧ ClockAt wq g gi now ins ∧ Ob wq q 30 (opc x) ∧ Below w.heap.size w wq ∧ ∀ b, u.ownBlock = some b → q < b) (fun _ i _ => N - (intOf i).toNat)
      case atStart => exact ⟨0, Nat.zero_le _, rfl, World.ownsRow_nil _ _ _ _, CX.out, OX.out, BX.out, fun b h => by simp [Value.ownBlock] at h⟩
      case round =>
        obtain ⟨j, hj, rfl, hw2, hc2, ho2, hb2, hbk⟩ := hrel
        have HBK := Lib.hid hbk
        have W2 := Lib.hid hw2
        have C2 := Lib.hid hc2
        have O2 := Lib.hid ho2
        have B2 := Lib.hid hb2
        clear hw2 hc2 ho2 hb2 hbk CX OX BX
        by_cases hlj : j < N
        · have hjl : j < ins.length := by have := HLN.out; omega
          have HIN := Lib.hid (inV_nat ins hjl)
          have HT := Lib.hid (iarr_take ins j hjl)
          have g3 : (j : Int) < (N : Int) := by omega
          clear hjl
          go_wp2_with fail
          refine (in_any wr g gi now ins j (by have := HLN.out; omega) C2.out).mono ?_
          rintro e w8 ⟨rfl, d8, rfl⟩
          rw [HIN.out]
          generalize ins.getD j 0 = z at HT
          go_wp2_with
            (at_builtin
             refine wpList_append_in _ rfl (.tmp 58) (.tmp 60) _ rfl (below_alloc (below_drewN B2.out d8) _) 3 i0 _ 1 8 Try.underlying28 hi0 hz0 hz1 hz2 rfl (by omega) _ j _ rfl (World.ownsRow.alloc (w := wr.drewN d8) W2.out _)
               (some ⟨wr.heap.size, 0, none⟩) 1 1 [.int .i64 z] rfl rfl (Sl.fresh (wr.drewN d8) #[.int .i64 z] 3 (0, 0)) (by intro y hy; rcases List.mem_singleton.1 hy with rfl; rfl) (by omega) (by omega) ?_
             intro v3 w3 hown hb g2 g4
             have hg : (wr.drewN d8).grownBy w3 u9.ownBlock := (World.grownBy_alloc _ _ _).trans g2
             have C3 := Lib.hid (show ClockAt w3 g gi now ins from ⟨Ob.grown (C2.out.1.drewN d8) hg (fun e => by have := HBK.out g e.symm; omega), Ob.grown (C2.out.2.drewN d8) hg (fun e => by have := HBK.out gi e.symm; omega)⟩)
             have O3 := Lib.hid (Ob.grown (O2.out.drewN d8) hg (fun e => by have := HBK.out q e.symm; omega))
             have K3 : Hid (∀ b, v3.ownBlock = some b → q < b) := Lib.hid fun b hbb => by
               rcases g4 with h | h
               · exact HBK.out b (h ▸ hbb)
               · rw [h] at hbb
                 injection hbb with hbb
                 have h1 : q < (wr.drewN d8).heap.size := (O2.out.drewN d8).lt
                 have h2 : ((wr.drewN d8).alloc (.cells #[.int .i64 z] 3)).heap.size = (wr.drewN d8).heap.size + 1 := by simp
                 omega
             rw [HT.out] at hown
             have W3 := Lib.hid hown
             have B3 := Lib.hid hb
             clear hown hb hg g2 g4)
          refine ⟨⟨j + 1, by omega, by go_num, W3.out, C3.out, O3.out, B3.out, K3.out⟩, by simp [intOf]; omega⟩
        · have hjN : j = N := by omega
          subst j
          have g3 : ¬ (N : Int) < (N : Int) := by omega
          have W : Hid (wr.ownsRow w.heap.size 3 1 u9 N (iarr ins)) := Lib.hid (by have h := W2.out; rw [List.take_of_length_le (by have := HLN.out; omega)] at h; exact h)
          have f0 : wr.cell? ⟨q, 0, none⟩ = some (.int .i64 x.kind) := O2.out.cell 0
          have f1 : wr.cell? ⟨q, 1, none⟩ = some (.int .i64 x.wk) := O2.out.cell 1
          have f2 : wr.cell? ⟨q, 2, none⟩ = some (.slice x.A x.ws.length x.cap) := O2.out.cell 2
          clear W2 O2
          go_wp2_with fail
          refine (now_any wr g gi now ins C2.out).mono ?_
          rintro e w8 ⟨rfl, rfl⟩
          by_cases h0 : x.kind = 0
          · have h0' : (x.kind == 0) = true := by simpa using h0
            clear h0
            go_wp2_with fail
            refine (enter_any wr g gi now ins x.wk (by have := HLN.out; omega) C2.out).mono ?_
            rintro e w8 ⟨rfl, h8, n8⟩
            have C8 := Lib.hid h8
            have B8 := Lib.hid (Only.below B2.out n8 B2.out.size hgi0)
            have W8 := Lib.hid (World.ownsRow.kept W.out n8 (.inr fun e => by have := HBK.out gi e; omega))
            generalize enV now ins x.wk = ev
            clear h8 n8
            by_cases he : enC ins x.wk = 0
            · rw [he]
              clear he
              go_wp2_with fail
              refine ⟨⟨k + 1, now, _, by omega, by go_num, C8.out, by rw [enI_length]; exact HLN.out, by omega, by omega, HPOS.out.enI now (by omega) x.wk, B8.out⟩, by simp [intOf]; omega⟩
            · have he' : (enC ins x.wk == 0) = false := by simpa using he
              have C9 : Hid (ClockAt w8 g gi now ins) := Lib.hid (by have h := C8.out; unfold enI at h; rw [if_neg he] at h; exact h)
              clear he
              go_wp2_with fail
              go_loopw [15] (fun i wq => ∃ j : Nat, j ≤ N ∧ i = .int .i64 j ∧ ClockAt wq g gi now ins ∧ wq.ownsRow w.heap.size 3 1 u9 N (iarr ins) ∧ Below w.heap.size w wq) (fun i _ => N - (intOf i).toNat)
              case atStart => exact ⟨0, Nat.zero_le _, rfl, C9.out, W8.out, B8.out⟩
              case round =>
                obtain ⟨j, hj, rfl, hc3, hw3, hb3⟩ := hrel
                have C3 := Lib.hid hc3
                have W3 := Lib.hid hw3
                have B3 := Lib.hid hb3
                clear hc3 hw3 hb3
                by_cases hlj : j < N
                · have hjl : j < ins.length := by have := HLN.out; omega
                  have hpos := HPOS.out.at_ j
                  have hin := inV_nat ins hjl
                  obtain ⟨Aw, cw, hu, _, _, hsl, _⟩ := own_form W3.out
                  obtain ⟨bw, ow, rfl, hcl⟩ := sl_iarr hsl (by have := HLN.out; omega)
                  have f2 := hcl j hjl
                  subst hu
                  clear hsl hcl hjl
                  obtain ⟨z, hz⟩ : ∃ z, ins.getD j 0 = z := ⟨_, rfl⟩
                  rw [hz] at f2 hpos hin
                  have HIN := Lib.hid hin
                  clear hz hin
                  have g3 : (j : Int) < (N : Int) := by omega
                  have hzz : (z != 0) = decide (0 < z) := by
                    by_cases h0 : z = 0
                    · subst h0; rfl
                    · have : 0 < z := by omega
                      simp [h0, this]
                  have HZZ := Lib.hid hzz
                  clear hzz
                  go_wp2_with fail
                  refine (in_any wr g gi now ins j (by have := HLN.out; omega) C3.out).mono ?_
                  rintro e w8 ⟨rfl, d8, rfl⟩
                  rw [HIN.out, HZZ.out]
                  have f3 : (wr.drewN d8).cell? ⟨bw, ow + j, none⟩ = some (.int .i64 z) := f2
                  go_wp2_with fail
                  refine ⟨⟨j + 1, by omega, by go_num, C3.out.drewN d8, W3.out, below_drewN B3.out d8⟩, by simp [intOf]; omega⟩
                · have g3 : ¬ (j : Int) < (N : Int) := by omega
                  go_wp2_with fail
                  refine (now_any wr g gi now ins C3.out).mono ?_
                  rintro e w8 ⟨rfl, rfl⟩
                  go_wp2_with fail
                  refine ⟨⟨k + 1, now, ins, by omega, by go_num, C3.out, HLN.out, by omega, by omega, HPOS.out, B3.out⟩, by simp [intOf]; omega⟩
          · have h0' : (x.kind == 0) = false := by simpa using h0
            by_cases h1 : x.kind = 1
            · have h1' : (x.kind == 1) = true := by simpa using h1
              clear h0 h1
              go_wp2_with fail
              refine (leave_any wr g gi now ins x.ws x.A x.ws.length x.cap rfl (by have := HX0.out.1; omega) (by have := HLN.out; omega) C2.out (Sl.below HX0.out.2.1 B2.out) (fun p hp h => by have := HX0.out.2.2 p hp h; omega)).mono ?_
              rintro e w8 ⟨rfl, h8, n8⟩
              have C8 := Lib.hid h8
              have B8 := Lib.hid (Only.below B2.out n8 B2.out.size hgi0)
              have W8 := Lib.hid (World.ownsRow.kept W.out n8 (.inr fun e => by have := HBK.out gi e; omega))
              clear h8 n8
              by_cases he : lvC ins x.ws = 0
              · rw [he]
                clear he
                go_wp2_with fail
                refine ⟨⟨k + 1, now, _, by omega, by go_num, C8.out, by rw [lvI_length]; exact HLN.out, by omega, by omega, HPOS.out.lvI x.ws, B8.out⟩, by simp [intOf]; omega⟩
              · have he' : (lvC ins x.ws == 0) = false := by simpa using he
                have C9 : Hid (ClockAt w8 g gi now ins) := Lib.hid (by have h := C8.out; rw [lvI_ne he] at h; exact h)
                clear he
                go_wp2_with fail
                go_loopw [15] (fun i wq => ∃ j : Nat, j ≤ N ∧ i = .int .i64 j ∧ ClockAt wq g gi now ins ∧ wq.ownsRow w.heap.size 3 1 u9 N (iarr ins) ∧ Below w.heap.size w wq) (fun i _ => N - (intOf i).toNat)
                case atStart => exact ⟨0, Nat.zero_le _, rfl, C9.out, W8.out, B8.out⟩
                case round =>
                  obtain ⟨j, hj, rfl, hc3, hw3, hb3⟩ := hrel
                  have C3 := Lib.hid hc3
                  have W3 := Lib.hid hw3
                  have B3 := Lib.hid hb3
                  clear hc3 hw3 hb3
                  by_cases hlj : j < N
                  · have hjl : j < ins.length := by have := HLN.out; omega
                    have hpos := HPOS.out.at_ j
                    have hin := inV_nat ins hjl
                    obtain ⟨Aw, cw, hu, _, _, hsl, _⟩ := own_form W3.out
                    obtain ⟨bw, ow, rfl, hcl⟩ := sl_iarr hsl (by have := HLN.out; omega)
                    have f2 := hcl j hjl
                    subst hu
                    clear hsl hcl hjl
                    obtain ⟨z, hz⟩ : ∃ z, ins.getD j 0 = z := ⟨_, rfl⟩
                    rw [hz] at f2 hpos hin
                    have HIN := Lib.hid hin
                    clear hz hin
                    have g3 : (j : Int) < (N : Int) := by omega
                    have hzz : (z != 0) = decide (0 < z) := by
                      by_cases h0 : z = 0
                      · subst h0; rfl
                      · have : 0 < z := by omega
                        simp [h0, this]
                    have HZZ := Lib.hid hzz
                    clear hzz
                    go_wp2_with fail
                    refine (in_any wr g gi now ins j (by have := HLN.out; omega) C3.out).mono ?_
                    rintro e w8 ⟨rfl, d8, rfl⟩
                    rw [HIN.out, HZZ.out]
                    have f3 : (wr.drewN d8).cell? ⟨bw, ow + j, none⟩ = some (.int .i64 z) := f2
                    go_wp2_with fail
                    refine ⟨⟨j + 1, by omega, by go_num, C3.out.drewN d8, W3.out, below_drewN B3.out d8⟩, by simp [intOf]; omega⟩
                  · have g3 : ¬ (j : Int) < (N : Int) := by omega
                    go_wp2_with fail
                    refine (now_any wr g gi now ins C3.out).mono ?_
                    rintro e w8 ⟨rfl, rfl⟩
                    go_wp2_with fail
                    refine ⟨⟨k + 1, now, ins, by omega, by go_num, C3.out, HLN.out, by omega, by omega, HPOS.out, B3.out⟩, by simp [intOf]; omega⟩
            · have h1' : (x.kind == 1) = false := by simpa using h1
              by_cases h2 : x.kind = 2
              · have h2' : (x.kind == 2) = true := by simpa using h2
                clear h0 h1 h2
                go_wp2_with fail
                refine (advance_any wr g gi now ins (by omega) (by omega) C2.out).mono ?_
                rintro e w8 ⟨rfl, h8, n8⟩
                have C8 := Lib.hid h8
                have B8 := Lib.hid (Only.below B2.out n8 B2.out.size hg0)
                clear h8 n8
                go_wp2_with fail
                refine ⟨⟨k + 1, now + 1, ins, by omega, by go_num, C8.out, HLN.out, by omega, by omega, HPOS.out, B8.out⟩, by simp [intOf]; omega⟩
              · have h2' : (x.kind == 2) = false := by simpa using h2
                clear h0 h1 h2
                go_wp2_with fail
                refine ⟨⟨k + 1, now, ins, by omega, by go_num, C2.out, HLN.out, by omega, by omega, HPOS.out, B2.out⟩, by simp [intOf]; omega⟩
    · have g1 : ¬ (k : Int) < (n : Int) := by omega
      go_wp2_with fail
      go_ret
      exact ⟨rfl, B.out⟩

set_option maxRecDepth 100000 in
set_option maxHeartbeats 1000000 in
theorem refused_bad (w : World) (z : Int) (hz : z < 1 ∨ 4 < z) (v : Value) :
    Calls Try.prog 3 #[.int .i64 z, v] w fun e w' => e = .returned (.bool true) ∧ Below w.heap.size w w' := by
  have HZ := Lib.hid hz
  clear hz
  go_enter Try.func3, Try.ntmps3
  go_wp2_with fail
  refine (awake_any w).mono ?_
  rintro e wa ⟨rfl, hba⟩
  have HBA := Lib.hid hba
  clear hba
  go_wp2_with fail
  refine (new_bad wa z HZ.out).mono ?_
  rintro e w1 ⟨rfl, rfl⟩
  go_wp2_with fail
  go_ret
  exact ⟨rfl, HBA.out⟩

theorem refused_law (w : World) (z : Int) (_ : (Lit.int .i64 z).wf = true) (l : List OpE) (v : Value) (hr : RdOps w v l) :
    Calls Try.prog 3 #[.int .i64 z, v] w fun e w' => e = .returned (.bool true) ∧ Below w.heap.size w w' := by
  by_cases hz : 1 ≤ z ∧ z ≤ 4
  · obtain ⟨⟨A, c, rfl, hc, hb⟩, hm⟩ := hr
    obtain ⟨N, rfl⟩ : ∃ N : Nat, z = (N : Int) := ⟨z.toNat, by omega⟩
    exact refused_walk w N (by omega) (by omega) l A c l.length rfl (by omega) hb
  · exact refused_bad w z (by omega) v

end Go.Proofs.Ytaclegafgkbmaaa
