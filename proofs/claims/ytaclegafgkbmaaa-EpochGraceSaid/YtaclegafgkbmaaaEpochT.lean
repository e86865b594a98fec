/-
  The walk of the law EpochGrace. Conditions: none.
-/
import Derived.Test.YtaclegafgkbmaaaEpochN
namespace Go.Proofs.Ytaclegafgkbmaaa
open Go.RowKit

theorem bool_info : (Try.prog.info? 4).map (fun i => (i.zero, i.size, i.bytes)) = some (some (.bool false), 1, 1) := by kernel_rfl
/-- a script that came in, at A -/
def Scr (w : World) (A : Option Addr) (l : List OpE) : Prop := 0 < l.length → ∃ b o, A = some ⟨b, o, none⟩ ∧ b < w.heap.size ∧ ∀ i, i < l.length → OpAt w b (o + i * 3) (l.getD i op0) ∧ OpOk w (l.getD i op0)

set_option maxRecDepth 100000 in
set_option maxHeartbeats 4000000 in
theorem grace_walk (w : World) (N : Nat) (hN1 : 1 ≤ N) (hN4 : N ≤ 4) (bf bh : List OpE) (A A2 : Option Addr) (c c2 n n2 : Nat) (hn : n = bf.length) (hn2 : n2 = bh.length) (hm : n ≤ 17592186044416) (hm2 : n2 ≤ 17592186044416) (hr : Scr w A bf) (hr2 : Scr w A2 bh) :
    Calls Try.prog 4 #[.int .i64 N, .slice A n c, .slice A2 n2 c2] w fun e w' => e = .returned (.bool true) ∧ Below w.heap.size w w' := by
  obtain ⟨i0, hi0, hz0, hz1, hz2⟩ := info_parts bool_info
  have HN := Lib.hid hn
  have HN2 := Lib.hid hn2
  have HR := Lib.hid hr
  have HR2 := Lib.hid hr2
  clear hn hr hn2 hr2
  go_enter Try.func4, Try.ntmps4
  go_wp2_with fail
  refine (awake_any w).mono ?_
  rintro e wa ⟨rfl, hba⟩
  have HBA := Lib.hid hba
  clear hba
  go_wp2_with fail
  refine (new_ok wa N hN1 hN4).mono ?_
  rintro e w1 ⟨g, gi, rfl, hg, hgi, h1, b1⟩
  have C1 := Lib.hid h1
  have B1 := Lib.hid (HBA.out.trans (b1.mono HBA.out.size))
  have hg0 : w.heap.size ≤ g := Nat.le_trans HBA.out.size hg
  have hgi0 : w.heap.size ≤ gi := Nat.le_trans HBA.out.size hgi
  clear h1 b1 hg hgi HBA
  go_wp2_with fail
  go_loopw [9] (fun i wr => ∃ (k : Nat) (now : Int) (ins : List Int), k ≤ n ∧ i = .int .i64 k ∧ ClockAt wr g gi now ins ∧ ins.length = N ∧ 1 ≤ now ∧ now ≤ (k : Int) + 1 ∧ Bnd ins now ∧ Below w.heap.size w wr) (fun i _ => n - (intOf i).toNat)
  case atStart => exact ⟨0, 1, List.replicate N 0, Nat.zero_le _, rfl, C1.out, List.length_replicate, by omega, by omega, fun x hx => by rw [List.mem_replicate] at hx; omega, B1.out⟩
  case round =>
    obtain ⟨k, now, ins, hk, rfl, hc, hln, hn1, hnk, hbnd, hb⟩ := hrel
    have C := Lib.hid hc
    have HLN := Lib.hid hln
    have HBND := Lib.hid hbnd
    have B := Lib.hid hb
    clear hc hln hbnd hb C1 B1
    by_cases hlt : k < n
    · have g1 : (k : Int) < (n : Int) := by omega
      obtain ⟨b, o, rfl, hbl, hop⟩ := HR.out (by have := HN.out; omega)
      have hkl : k < bf.length := by have := HN.out; omega
      have HX0 := Lib.hid (hop k hkl).2
      obtain ⟨f0, f1, f2⟩ := (hop k hkl).1.below hbl B.out
      clear hop
      generalize bf.getD k op0 = x at f0 f1 f2 HX0
      by_cases h0 : x.kind = 0
      · have h0' : (x.kind == 0) = true := by simpa using h0
        clear h0
        go_wp2_with fail
        refine (enter_any wr g gi now ins x.wk (by have := HLN.out; omega) C.out).mono ?_
        rintro e w8 ⟨rfl, h8, n8⟩
        have C8 := Lib.hid h8
        have B8 := Lib.hid (Only.below B.out n8 B.out.size hgi0)
        clear h8 n8
        go_wp2_with fail
        refine ⟨⟨k + 1, now, _, by omega, by go_num, C8.out, by rw [enI_length]; exact HLN.out, by omega, by omega, HBND.out.enI x.wk, B8.out⟩, by simp [intOf]; omega⟩
      · have h0' : (x.kind == 0) = false := by simpa using h0
        by_cases h1 : x.kind = 1
        · have h1' : (x.kind == 1) = true := by simpa using h1
          clear h0 h1
          go_wp2_with fail
          refine (leave_any wr g gi now ins x.ws x.A x.ws.length x.cap rfl (by have := HX0.out.1; omega) (by have := HLN.out; omega) C.out (Sl.below HX0.out.2.1 B.out) (fun p hp h => by have := HX0.out.2.2 p hp h; omega)).mono ?_
          rintro e w8 ⟨rfl, h8, n8⟩
          have C8 := Lib.hid h8
          have B8 := Lib.hid (Only.below B.out n8 B.out.size hgi0)
          clear h8 n8
          go_wp2_with fail
          refine ⟨⟨k + 1, now, _, by omega, by go_num, C8.out, by rw [lvI_length]; exact HLN.out, by omega, by omega, HBND.out.lvI (by omega) x.ws, B8.out⟩, by simp [intOf]; omega⟩
        · have h1' : (x.kind == 1) = false := by simpa using h1
          by_cases h2 : x.kind = 2
          · have h2' : (x.kind == 2) = true := by simpa using h2
            clear h0 h1 h2
            go_wp2_with fail
            refine (advance_any wr g gi now ins (by omega) (by omega) C.out).mono ?_
            rintro e w8 ⟨rfl, h8, n8⟩
            have C8 := Lib.hid h8
            have B8 := Lib.hid (Only.below B.out n8 B.out.size hg0)
            clear h8 n8
            go_wp2_with fail
            refine ⟨⟨k + 1, now + 1, ins, by omega, by go_num, C8.out, HLN.out, by omega, by omega, (fun x hx => by have := HBND.out x hx; omega), B8.out⟩, by simp [intOf]; omega⟩
          · have h2' : (x.kind == 2) = false := by simpa using h2
            clear h0 h1 h2
            go_wp2_with fail
            refine ⟨⟨k + 1, now, ins, by omega, by go_num, C.out, HLN.out, by omega, by omega, HBND.out, B.out⟩, by simp [intOf]; omega⟩
    · have g1 : ¬ (k : Int) < (n : Int) := by omega
      go_wp2_with fail
      go_loopw [10, 11] (fun u i wq => ∃ j : Nat, j ≤ N ∧ i = .int .i64 j ∧ wq.ownsRow w.heap.size 4 1 u j (bar ((ins.take j).map (· != 0))) ∧ ClockAt wq g gi now ins ∧ Below w.heap.size w wq) (fun _ i _ => N - (intOf i).toNat)
      case atStart => exact ⟨0, Nat.zero_le _, rfl, World.ownsRow_nil _ _ _ _, C.out, B.out⟩
      case round =>
        obtain ⟨j, hj, rfl, hw2, hc2, hb2⟩ := hrel
        have W2 := Lib.hid hw2
        have C2 := Lib.hid hc2
        have B2 := Lib.hid hb2
        clear hw2 hc2 hb2 C B
        by_cases hlj : j < N
        · have hjl : j < ins.length := by have := HLN.out; omega
          have HIN := Lib.hid (inV_nat ins hjl)
          have HT := Lib.hid (bar_take ins j hjl)
          have g3 : (j : Int) < (N : Int) := by omega
          clear hjl
          go_wp2_with fail
          refine (in_any wr g gi now ins j (by have := HLN.out; omega) C2.out).mono ?_
          rintro e w8 ⟨rfl, d8, rfl⟩
          rw [HIN.out]
          generalize (ins.getD j 0 != 0) = zb at HT
          go_wp2_with
            (at_builtin
             refine wpList_append_in _ rfl (.tmp 84) (.tmp 86) _ rfl (below_alloc (below_drewN B2.out d8) _) 4 i0 _ 1 1 Try.underlying38 hi0 hz0 hz1 hz2 rfl (by omega) _ j _ rfl (World.ownsRow.alloc (w := wr.drewN d8) W2.out _)
               (some ⟨wr.heap.size, 0, none⟩) 1 1 [.bool zb] rfl rfl (Sl.fresh (wr.drewN d8) #[.bool zb] 4 (0, 0)) (by intro y hy; rcases List.mem_singleton.1 hy with rfl; rfl) (by omega) (by omega) ?_
             intro v3 w3 hown hb g2 g4
             have hg : (wr.drewN d8).grownBy w3 u10.ownBlock := (World.grownBy_alloc _ _ _).trans g2
             have C3 := Lib.hid (show ClockAt w3 g gi now ins from ⟨Ob.grown (C2.out.1.drewN d8) hg (fun e => own_typed W2.out C2.out.1 (by decide) e.symm), Ob.grown (C2.out.2.drewN d8) hg (fun e => own_typed W2.out C2.out.2 (by decide) e.symm)⟩)
             rw [HT.out] at hown
             have W3 := Lib.hid hown
             have B3 := Lib.hid hb
             clear hown hb hg g2 g4)
          refine ⟨⟨j + 1, by omega, by go_num, W3.out, C3.out, B3.out⟩, by simp [intOf]; omega⟩
        · have hjN : j = N := by omega
          subst j
          have g3 : ¬ (N : Int) < (N : Int) := by omega
          have W : wr.ownsRow w.heap.size 4 1 u10 N (bar (ins.map (· != 0))) := by have h := W2.out; rw [List.take_of_length_le (by have := HLN.out; omega)] at h; exact h
          obtain ⟨gw, capw, rest, rfl, hgw, hob, hcap, _, _, _⟩ := own_ob W hN1
          have OW := Lib.hid hob
          have hinv := Inv.start HBND.out
          have HINV := Lib.hid hinv
          clear W W2 hob hinv
          go_wp2_with fail
          refine (advance_any wr g gi now ins (by omega) (by omega) C2.out).mono ?_
          rintro e w8 ⟨rfl, h8, n8⟩
          have C8 := Lib.hid h8
          have B8 := Lib.hid (Only.below B2.out n8 B2.out.size hg0)
          have O8 := Lib.hid (Ob.only OW.out n8 (Ob.ne_ OW.out C2.out.1 (by decide)))
          have HW0 := Lib.hid HINV.out.1
          clear h8 n8 C2 B2 OW
          obtain ⟨G, hG⟩ : ∃ G, now + 1 = G := ⟨_, rfl⟩
          rw [hG] at C8 HINV ⊢
          have hG1 : 2 ≤ G := by omega
          have hG2 : G ≤ 17592186044418 := by omega
          clear hG
          obtain ⟨W0, hW0⟩ : ∃ W0, ins.map (· != 0) = W0 := ⟨_, rfl⟩
          rw [hW0] at O8 HINV HW0
          clear hW0
          go_wp2_with fail
          go_loopw [15, 16] (fun a i wr => ∃ (k : Nat) (nw : Int) (ins : List Int) (W : List Bool) (s : Bool), k ≤ n2 ∧ a = .bool s ∧ i = .int .i64 k ∧ ClockAt wr g gi nw ins ∧ ins.length = N ∧ G ≤ nw ∧ nw ≤ G + k ∧ Inv ins W G ∧ (s = true → wantV W = true) ∧ Ob wr gw 4 (bar W ++ rest) ∧ Below w.heap.size w wr) (fun _ i _ => n2 + 1 - (intOf i).toNat)
          case atStart => exact ⟨0, G, ins, W0, false, Nat.zero_le _, rfl, rfl, C8.out, HLN.out, by omega, by omega, HINV.out, (fun h => by cases h), O8.out, B8.out⟩
          case round =>
            clear HLN HBND HINV HW0 C8 O8 B8
            obtain ⟨k2, nw, is, W, s, hk2, rfl, rfl, hc, hln, hnw1, hnw2, hinv, hsw, hob, hb⟩ := hrel
            have C := Lib.hid hc
            have HLN := Lib.hid hln
            have HINV := Lib.hid hinv
            have HSW := Lib.hid hsw
            have OW := Lib.hid hob
            have B := Lib.hid hb
            have HWL : Hid (W.length = N) := Lib.hid (by rw [hinv.1]; exact hln)
            clear hc hln hinv hsw hob hb
            have g1 : (k2 : Int) ≤ (n2 : Int) := by omega
            go_wp2_with fail
            go_loopw [17, 18] (fun a i wq => ∃ j : Nat, j ≤ N ∧ a = .bool (wantV (W.take j)) ∧ i = .int .i64 j ∧ wr = wq) (fun _ i _ => N - (intOf i).toNat)
            case atStart => exact ⟨0, Nat.zero_le _, rfl, rfl, rfl⟩
            case round =>
              obtain ⟨j, hj, rfl, rfl, rfl⟩ := hrel
              by_cases hlj : j < N
              · have hjW : j < W.length := by have := HWL.out; omega
                have HT := Lib.hid (wantV_take W j hjW)
                have f5 : wr.cell? ⟨gw, j, none⟩ = some (.bool (W.getD j false)) := by rw [OW.out.cell, List.getElem?_append_left (by rw [bar_length]; exact hjW), bar_get W j hjW]
                have g4 : (j : Int) < (N : Int) := by omega
                have hcp : (j : Int) < (N : Int) := g4
                clear hjW
                generalize W.getD j false = bb at f5 HT
                generalize wantV (W.take j) = wv at HT
                cases wv
                · go_wp2_with fail
                  refine ⟨⟨j + 1, by omega, by rw [HT.out]; rfl, by go_num, trivial⟩, by simp [intOf]; omega⟩
                · cases bb
                  · go_wp2_with fail
                    refine ⟨⟨j + 1, by omega, by rw [HT.out]; rfl, by go_num, trivial⟩, by simp [intOf]; omega⟩
                  · go_wp2_with fail
                    refine ⟨⟨j + 1, by omega, by rw [HT.out]; rfl, by go_num, trivial⟩, by simp [intOf]; omega⟩
              · have hjN : j = N := by omega
                subst j
                have g4 : ¬ (N : Int) < (N : Int) := by omega
                rw [List.take_of_length_le (by have := HWL.out; omega)]
                have HSAFE := Lib.hid HINV.out.safe
                obtain ⟨V, hV⟩ : ∃ V, wantV W = V := ⟨_, rfl⟩
                rw [hV] at HSAFE HSW ⊢
                have HV := Lib.hid hV
                clear hV
                go_wp2_with fail
                refine (safe_any wr g gi nw is G (by have := HLN.out; omega) C.out).mono ?_
                rintro e w9 ⟨rfl, rfl⟩
                rw [HSAFE.out]
                have hcase : (s = true ∧ V = true) ∨ (s = false ∧ V = true) ∨ (s = false ∧ V = false) := by
                  cases s
                  · cases V
                    · exact .inr (.inr ⟨rfl, rfl⟩)
                    · exact .inr (.inl ⟨rfl, rfl⟩)
                  · exact .inl ⟨rfl, HSW.out rfl⟩
                clear HSW HSAFE
                by_cases hend : k2 = n2
                · have g6 : ((k2 : Int) == (n2 : Int)) = true := by simp; omega
                  rcases hcase with ⟨rfl, rfl⟩ | ⟨rfl, rfl⟩ | ⟨rfl, rfl⟩
                  all_goals
                    go_wp2_with fail
                    refine (oldest_any wr g gi nw is (by have := HLN.out; omega) C.out).mono ?_
                    rintro e w9 ⟨rfl, rfl⟩
                    go_wp2_with fail
                    refine (safe_any wr g gi nw is (oldV nw is) (by have := HLN.out; omega) C.out).mono ?_
                    rintro e w9 ⟨rfl, rfl⟩
                    rw [safe_old]
                    go_wp2_with fail
                    go_ret
                    exact ⟨rfl, B.out⟩
                · have g6 : ((k2 : Int) == (n2 : Int)) = false := by simp; omega
                  obtain ⟨b, o, rfl, hbl, hop⟩ := HR2.out (by have := HN2.out; omega)
                  have hkl : k2 < bh.length := by have := HN2.out; omega
                  have HX0 := Lib.hid (hop k2 hkl).2
                  obtain ⟨c0, c1, c2'⟩ := (hop k2 hkl).1.below hbl B.out
                  clear hop
                  have g7 : (k2 : Int) < (n2 : Int) := by omega
                  generalize bh.getD k2 op0 = x at c0 c1 c2' HX0
                  have OX : Hid (Ob (wr.alloc (.cells #[.int .i64 x.kind, .int .i64 x.wk, .slice x.A x.ws.length x.cap] 30)) wr.heap.size 30 (opc x)) := Lib.hid (Ob.fresh wr 30 (opc x))
                  have CX := Lib.hid (C.out.below (below_alloc (Below.refl wr.heap.size wr) (.cells #[.int .i64 x.kind, .int .i64 x.wk, .slice x.A x.ws.length x.cap] 30)))
                  have BX := Lib.hid (below_alloc B.out (.cells #[.int .i64 x.kind, .int .i64 x.wk, .slice x.A x.ws.length x.cap] 30))
                  have OWX := Lib.hid (OW.out.alloc (.cells #[.int .i64 x.kind, .int .i64 x.wk, .slice x.A x.ws.length x.cap] 30))
                  rcases hcase with ⟨rfl, rfl⟩ | ⟨rfl, rfl⟩ | ⟨rfl, rfl⟩
                  all_goals
                    go_upto_region 37 with fail
                    generalize wr.alloc (.cells #[.int .i64 x.kind, .int .i64 x.wk, .slice x.A x.ws.length x.cap] 30) = wx at OX CX BX OWX ⊢
                    generalize wr.heap.size = q at OX ⊢
                    clear c0 c1 c2' C B OW
                    have f0 : wx.cell? ⟨q, 0, none⟩ = some (.int .i64 x.kind) := OX.out.cell 0
                    have f1 : wx.cell? ⟨q, 1, none⟩ = some (.int .i64 x.wk) := OX.out.cell 1
                    have f2 : wx.cell? ⟨q, 2, none⟩ = some (.slice x.A x.ws.length x.cap) := OX.out.cell 2
                    by_cases h0 : x.kind = 0
                    · have h0' : (x.kind == 0) = true := by simpa using h0
                      clear h0
                      go_wp2_with fail
                      refine (enter_any wx g gi nw is x.wk (by have := HLN.out; omega) CX.out).mono ?_
                      rintro e w8 ⟨rfl, h8, n8⟩
                      have C8 := Lib.hid h8
                      have B8 := Lib.hid (Only.below BX.out n8 BX.out.size hgi0)
                      have O8 := Lib.hid (Ob.only OWX.out n8 (Ob.ne_ OWX.out CX.out.2 (by decide)))
                      clear h8 n8
                      go_wp2_with fail
                      refine ⟨⟨k2 + 1, nw, _, W, _, by omega, rfl, by go_num, C8.out, by rw [enI_length]; exact HLN.out, by omega, by omega, HINV.out.enter hnw1 x.wk, (fun h => by first | exact HV.out | cases h), O8.out, B8.out⟩, by simp [intOf]; omega⟩
                    · have h0' : (x.kind == 0) = false := by simpa using h0
                      by_cases h1 : x.kind = 1
                      · have h1' : (x.kind == 1) = true := by simpa using h1
                        have hwl : x.ws.length ≤ 17592186044416 := by have := HX0.out.1; omega
                        clear h0 h1
                        go_wp2_with fail
                        refine (leave_any wx g gi nw is x.ws x.A x.ws.length x.cap rfl (by have := HX0.out.1; omega) (by have := HLN.out; omega) CX.out (Sl.below HX0.out.2.1 BX.out) (fun p hp h => by have := HX0.out.2.2 p hp h; omega)).mono ?_
                        rintro e w8 ⟨rfl, h8, n8⟩
                        have C8 := Lib.hid h8
                        have B8 := Lib.hid (Only.below BX.out n8 BX.out.size hgi0)
                        have O8 := Lib.hid (Ob.only OWX.out n8 (Ob.ne_ OWX.out CX.out.2 (by decide)))
                        have Q8 := Lib.hid (Ob.only OX.out n8 (Ob.ne_ OX.out CX.out.2 (by decide)))
                        clear h8 n8
                        by_cases he : lvC is x.ws = 0
                        · have HOK : Hid (LvOk1 is x.ws) := Lib.hid (by
                            apply Classical.byContradiction
                            intro hno
                            rw [lvC_2 hno] at he
                            cases he)
                          have C9 : Hid (ClockAt w8 g gi nw (clr is x.ws)) := Lib.hid (by have h := C8.out; rw [lvI_eq he] at h; exact h)
                          rw [he]
                          clear he C8
                          go_wp2_with fail
                          go_loopw [20] (fun i wq => ∃ m : Nat, m ≤ x.ws.length ∧ i = .int .i64 m ∧ ClockAt wq g gi nw (clr is x.ws) ∧ Ob wq gw 4 (bar (clrB W (x.ws.take m)) ++ rest) ∧ Ob wq q 30 (opc x) ∧ Below w.heap.size w wq) (fun i _ => x.ws.length - (intOf i).toNat)
                          case atStart => exact ⟨0, Nat.zero_le _, rfl, C9.out, O8.out, Q8.out, B8.out⟩
                          case round =>
                            obtain ⟨m, hm', rfl, hc5, ho5, hq5, hb5⟩ := hrel
                            have C5 := Lib.hid hc5
                            have O5 := Lib.hid ho5
                            have Q5 := Lib.hid hq5
                            have B5 := Lib.hid hb5
                            clear hc5 ho5 hq5 hb5 C9 O8 Q8 B8 f0 f1 f2
                            have e2 : wr.cell? ⟨q, 2, none⟩ = some (.slice x.A x.ws.length x.cap) := Q5.out.cell 2
                            by_cases hlm : m < x.ws.length
                            · obtain ⟨bw, ow, hAe, hcl⟩ := sl_iarr HX0.out.2.1 (by omega)
                              rw [hAe] at e2 ⊢
                              have e3 : wr.cell? ⟨bw, ow + m, none⟩ = some (.int .i64 (x.ws.getD m 0)) := (B5.out.cell (cell_lt (hcl m hlm))).trans (hcl m hlm)
                              have hkm := (HOK.out m hlm).1
                              have HT := Lib.hid (clrB_take W x.ws m hlm)
                              clear hcl
                              obtain ⟨y0, hy0⟩ : ∃ y, x.ws.getD m 0 = y := ⟨_, rfl⟩
                              rw [hy0] at e3 hkm
                              have HY0 := Lib.hid hy0
                              clear hy0
                              obtain ⟨y, rfl⟩ : ∃ y : Nat, y0 = (y : Int) := ⟨y0.toNat, by have := hkm.1; omega⟩
                              have hyN : y < N := by have := hkm.2; have := HLN.out; omega
                              have hyl : y < (clrB W (x.ws.take m)).length := by rw [clrB_length]; have := HWL.out; omega
                              have e4 : wr.cell? ⟨gw, y, none⟩ = some (.bool ((clrB W (x.ws.take m)).getD y false)) := by rw [O5.out.cell, List.getElem?_append_left (by rw [bar_length]; exact hyl), bar_get _ y hyl]
                              have z0 : ∀ i, wr.frozen? ⟨gw, i, none⟩ = false := O5.out.frozen
                              have g8 : (y : Int) < (N : Int) := by omega
                              have g9 : (m : Int) < (x.ws.length : Int) := by omega
                              have HYL := Lib.hid hyl
                              clear hkm hyl
                              generalize (clrB W (x.ws.take m)).getD y false = bb at e4
                              go_wp2_with fail
                              refine ⟨⟨m + 1, by omega, by go_num, ⟨C5.out.1.far (Ob.ne_ C5.out.1 O5.out (by decide)) _, C5.out.2.far (Ob.ne_ C5.out.2 O5.out (by decide)) _⟩, ?_, Q5.out.far (Ob.ne_ Q5.out O5.out (by decide)) _, B5.out.setCell hgw _⟩, by simp [intOf]; omega⟩
                              have h := O5.out.set_ y (.bool false)
                              rw [List.set_append_left _ _ (by rw [bar_length]; exact HYL.out), bar_set] at h
                              rw [HT.out, HY0.out, Int.toNat_natCast]
                              exact h
                            · have g9 : ¬ (m : Int) < (x.ws.length : Int) := by omega
                              have e8 : x.ws.take m = x.ws := List.take_of_length_le (by omega)
                              rw [e8] at O5
                              go_wp2_with fail
                              refine ⟨⟨k2 + 1, nw, clr is x.ws, clrB W x.ws, _, by omega, rfl, by go_num, C5.out, by rw [clr_length]; exact HLN.out, by omega, by omega, Inv.clr G x.ws is W HINV.out, (fun h => by first | exact wantV_clrB _ _ HV.out | cases h), O5.out, B5.out⟩, by simp [intOf]; omega⟩
                        · have he' : (lvC is x.ws == 0) = false := by simpa using he
                          have C9 : Hid (ClockAt w8 g gi nw is) := Lib.hid (by have h := C8.out; rw [lvI_ne he] at h; exact h)
                          generalize lvC is x.ws = lc at he'
                          clear he C8
                          go_wp2_with fail
                          refine ⟨⟨k2 + 1, nw, is, W, _, by omega, rfl, by go_num, C9.out, HLN.out, by omega, by omega, HINV.out, (fun h => by first | exact HV.out | cases h), O8.out, B8.out⟩, by simp [intOf]; omega⟩
                      · have h1' : (x.kind == 1) = false := by simpa using h1
                        by_cases h2 : x.kind = 2
                        · have h2' : (x.kind == 2) = true := by simpa using h2
                          clear h0 h1 h2
                          go_wp2_with fail
                          refine (advance_any wx g gi nw is (by omega) (by omega) CX.out).mono ?_
                          rintro e w8 ⟨rfl, h8, n8⟩
                          have C8 := Lib.hid h8
                          have B8 := Lib.hid (Only.below BX.out n8 BX.out.size hg0)
                          have O8 := Lib.hid (Ob.only OWX.out n8 (Ob.ne_ OWX.out CX.out.1 (by decide)))
                          clear h8 n8
                          go_wp2_with fail
                          refine ⟨⟨k2 + 1, nw + 1, is, W, _, by omega, rfl, by go_num, C8.out, HLN.out, by omega, by omega, HINV.out, (fun h => by first | exact HV.out | cases h), O8.out, B8.out⟩, by simp [intOf]; omega⟩
                        · have h2' : (x.kind == 2) = false := by simpa using h2
                          clear h0 h1 h2
                          go_wp2_with fail
                          refine ⟨⟨k2 + 1, nw, is, W, _, by omega, rfl, by go_num, CX.out, HLN.out, by omega, by omega, HINV.out, (fun h => by first | exact HV.out | cases h), OWX.out, BX.out⟩, by simp [intOf]; omega⟩

set_option maxRecDepth 100000 in
set_option maxHeartbeats 1000000 in
theorem grace_bad (w : World) (z : Int) (hz : z < 1 ∨ 4 < z) (v v2 : Value) :
    Calls Try.prog 4 #[.int .i64 z, v, v2] w fun e w' => e = .returned (.bool true) ∧ Below w.heap.size w w' := by
  have HZ := Lib.hid hz
  clear hz
  go_enter Try.func4, Try.ntmps4
  go_wp2_with fail
  refine (awake_any w).mono ?_
  rintro e wa ⟨rfl, hba⟩
  have HBA := Lib.hid hba
  clear hba
  go_wp2_with fail
  refine (new_bad wa z HZ.out).mono ?_
  rintro e w1 ⟨rfl, rfl⟩
  go_wp2_with fail
  go_ret
  exact ⟨rfl, HBA.out⟩

theorem grace_law (w : World) (z : Int) (_ : (Lit.int .i64 z).wf = true) (l : List OpE) (v : Value) (hr : RdOps w v l) (l2 : List OpE) (v2 : Value) (hr2 : RdOps w v2 l2) :
    Calls Try.prog 4 #[.int .i64 z, v, v2] w fun e w' => e = .returned (.bool true) ∧ Below w.heap.size w w' := by
  by_cases hz : 1 ≤ z ∧ z ≤ 4
  · obtain ⟨⟨A, c, rfl, hc, hb⟩, hm⟩ := hr
    obtain ⟨⟨A2, c2, rfl, hc2, hb2⟩, hm2⟩ := hr2
    obtain ⟨N, rfl⟩ : ∃ N : Nat, z = (N : Int) := ⟨z.toNat, by omega⟩
    exact grace_walk w N (by omega) (by omega) l l2 A A2 c c2 l.length l2.length rfl rfl (by omega) (by omega) hb hb2
  · exact grace_bad w z (by omega) v v2

end Go.Proofs.Ytaclegafgkbmaaa
