/-
  The walk of the law EpochRises. Conditions: none.
-/
import Derived.Test.YtaclegafgkbmaaaEpochM
namespace Go.Proofs.Ytaclegafgkbmaaa
open Go.RowKit

set_option maxRecDepth 100000 in
set_option maxHeartbeats 4000000 in
theorem rises_walk (w : World) (N : Nat) (hN1 : 1 ≤ N) (hN4 : N ≤ 4) (script : List OpE) (A : Option Addr) (c n : Nat) (hn : n = script.length) (hm : n ≤ 17592186044416) (hr : 0 < n → ∃ b o, A = some ⟨b, o, none⟩ ∧ b < w.heap.size ∧ ∀ i, i < script.length → OpAt w b (o + i * 3) (script.getD i op0) ∧ OpOk w (script.getD i op0)) :
    Calls Try.prog 6 #[.int .i64 N, .slice A n c] w fun e w' => e = .returned (.bool true) ∧ Below w.heap.size w w' := by
  have HN := Lib.hid hn
  have HR := Lib.hid hr
  clear hn hr
  go_enter Try.func6, Try.ntmps6
  go_wp2_with fail
  refine (awake_any w).mono ?_
  rintro e wa ⟨rfl, hba⟩
  have HBA := Lib.hid hba
  clear hba
  go_wp2_with fail
  refine (new_ok wa N hN1 hN4).mono ?_
  rintro e w1 ⟨g, gi, rfl, hg, hgi, h1, b1⟩
  have C1 := Lib.hid h1
  have B1 := Lib.hid (HBA.out.trans (b1.mono HBA.out.size))
  have hg0 : w.heap.size ≤ g := Nat.le_trans HBA.out.size hg
  have hgi0 : w.heap.size ≤ gi := Nat.le_trans HBA.out.size hgi
  have HR0 := Lib.hid (List.length_replicate (n := N) (a := (0 : Int)))
  clear h1 b1 hg hgi HBA
  go_wp2_with fail
  refine (now_any w1 g gi 1 (List.replicate N 0) C1.out).mono ?_
  rintro e w2 ⟨rfl, rfl⟩
  go_wp2_with fail
  refine (oldest_any w1 g gi 1 (List.replicate N 0) (by rw [HR0.out]; omega) C1.out).mono ?_
  rintro e w2 ⟨rfl, rfl⟩
  obtain ⟨U0, hU0⟩ : ∃ U, oldV 1 (List.replicate N 0) = U := ⟨_, rfl⟩
  rw [hU0]
  have HU0 := Lib.hid hU0
  clear hU0
  go_wp2_with fail
  go_loopw [7, 8, 9] (fun a b i wr => ∃ (k : Nat) (now : Int) (ins : List Int) (U : Int), k ≤ n ∧ a = .int .i64 now ∧ b = .int .i64 U ∧ i = .int .i64 k ∧ ClockAt wr g gi now ins ∧ ins.length = N ∧ 1 ≤ now ∧ now ≤ (k : Int) + 1 ∧ Pos ins ∧ oldV now ins = U ∧ Below w.heap.size w wr) (fun _ _ i _ => n - (intOf i).toNat)
  case atStart => exact ⟨0, 1, List.replicate N 0, U0, Nat.zero_le _, rfl, rfl, rfl, C1.out, HR0.out, by omega, by omega, fun x hx => by rw [List.mem_replicate] at hx; omega, HU0.out, B1.out⟩
  case round =>
    obtain ⟨k, now, ins, U, hk, rfl, rfl, rfl, hc, hln, hn1, hnk, hpos, hu, hb⟩ := hrel
    have C := Lib.hid hc
    have HLN := Lib.hid hln
    have HPOS := Lib.hid hpos
    have HU := Lib.hid hu
    have B := Lib.hid hb
    clear hc hln hpos hu hb C1 B1
    by_cases hlt : k < n
    · have g1 : (k : Int) < (n : Int) := by omega
      obtain ⟨b, o, rfl, hbl, hop⟩ := HR.out (by omega)
      have hkl : k < script.length := by have := HN.out; omega
      obtain ⟨c0, c1, c2⟩ := (hop k hkl).1.below hbl B.out
      clear hop
      generalize script.getD k op0 = x at c0 c1 c2
      have OX : Hid (Ob (wr.alloc (.cells #[.int .i64 x.kind, .int .i64 x.wk, .slice x.A x.ws.length x.cap] 30)) wr.heap.size 30 (opc x)) := Lib.hid (Ob.fresh wr 30 (opc x))
      have CX := Lib.hid (C.out.below (below_alloc (Below.refl wr.heap.size wr) (.cells #[.int .i64 x.kind, .int .i64 x.wk, .slice x.A x.ws.length x.cap] 30)))
      have BX := Lib.hid (below_alloc B.out (.cells #[.int .i64 x.kind, .int .i64 x.wk, .slice x.A x.ws.length x.cap] 30))
      go_upto_region 11 with fail
      generalize wr.alloc (.cells #[.int .i64 x.kind, .int .i64 x.wk, .slice x.A x.ws.length x.cap] 30) = wx at OX CX BX ⊢
      generalize wr.heap.size = q at OX ⊢
      clear c0 c1 c2 C B
      have f0 : wx.cell? ⟨q, 0, none⟩ = some (.int .i64 x.kind) := OX.out.cell 0
      have f1 : wx.cell? ⟨q, 1, none⟩ = some (.int .i64 x.wk) := OX.out.cell 1
      by_cases h0 : x.kind = 0
      · have h0' : (x.kind == 0) = true := by simpa using h0
        clear h0
        go_wp2_with fail
        refine (enter_any wx g gi now ins x.wk (by have := HLN.out; omega) CX.out).mono ?_
        rintro e w8 ⟨rfl, h8, n8⟩
        have C8 := Lib.hid h8
        have B8 := Lib.hid (Only.below BX.out n8 BX.out.size hgi0)
        have O8 := Lib.hid (Ob.only OX.out n8 (Ob.ne_ OX.out CX.out.2 (by decide)))
        have f3 : w8.cell? ⟨q, 1, none⟩ = some (.int .i64 x.wk) := O8.out.cell 1
        clear h8 n8
        by_cases he : enC ins x.wk = 0
        · have hev : enV now ins x.wk = now := by unfold enV; rw [if_pos he]
          have hin := Lib.hid (en_ok (now := now) he)
          have hnz : (now != 0) = true := by simp; omega
          have HNZ := Lib.hid hnz
          rw [he, hev]
          clear he hev hnz
          go_wp2_with fail
          refine (in_any w8 g gi now (enI now ins x.wk) x.wk (by rw [enI_length]; exact (by have := HLN.out; omega)) C8.out).mono ?_
          rintro e w9 ⟨rfl, d9, rfl⟩
          rw [hin.out, HNZ.out]
          have C9 := Lib.hid (C8.out.drewN d9)
          have B9 := Lib.hid (below_drewN B8.out d9)
          generalize w8.drewN d9 = w9 at C9 B9 ⊢
          clear f0 f1 f3
          have hge : U ≤ oldV (now) (enI now ins x.wk) := by rw [← HU.out]; exact oldV_step (Int.le_refl _) (fun x hx _ => enI_mem hx)
          have hle := oldV_le (now) (enI now ins x.wk)
          have hlen : (enI now ins x.wk).length ≤ 4 := (by rw [enI_length]; exact (by have := HLN.out; omega))
          have hlen2 : (enI now ins x.wk).length = N := (by rw [enI_length]; exact HLN.out)
          have hpos2 : Pos (enI now ins x.wk) := (HPOS.out.enI now (by omega) x.wk)
          have CT : Hid (ClockAt w9 g gi (now) (enI now ins x.wk)) := Lib.hid C9.out
          have BT : Hid (Below w.heap.size w w9) := Lib.hid B9.out
          obtain ⟨I, hI⟩ : ∃ I, (enI now ins x.wk) = I := ⟨_, rfl⟩
          rw [hI] at hge hle hlen hlen2 hpos2 CT
          clear hI
          obtain ⟨Y, hY⟩ : ∃ Y, oldV (now) I = Y := ⟨_, rfl⟩
          rw [hY] at hge hle
          have HY := Lib.hid hY
          have HL := Lib.hid hlen
          have HL2 := Lib.hid hlen2
          have HP2 := Lib.hid hpos2
          clear hY hlen hlen2 hpos2
          have q1 : ¬ (now) < now := by omega
          have q2 : ¬ Y < U := by omega
          have q3 : ¬ (now) < Y := by omega
          go_wp2_with fail
          refine (now_any w9 g gi (now) I CT.out).mono ?_
          rintro e w20 ⟨rfl, rfl⟩
          go_wp2_with fail
          refine (oldest_any w9 g gi (now) I HL.out CT.out).mono ?_
          rintro e w20 ⟨rfl, rfl⟩
          rw [HY.out]
          go_wp2_with fail
          refine (oldest_any w9 g gi (now) I HL.out CT.out).mono ?_
          rintro e w20 ⟨rfl, rfl⟩
          rw [HY.out]
          go_wp2_with fail
          refine (now_any w9 g gi (now) I CT.out).mono ?_
          rintro e w20 ⟨rfl, rfl⟩
          go_wp2_with fail
          refine (now_any w9 g gi (now) I CT.out).mono ?_
          rintro e w20 ⟨rfl, rfl⟩
          go_wp2_with fail
          refine (oldest_any w9 g gi (now) I HL.out CT.out).mono ?_
          rintro e w20 ⟨rfl, rfl⟩
          rw [HY.out]
          go_wp2_with fail
          refine ⟨⟨k + 1, now, I, Y, by omega, rfl, rfl, by go_num, CT.out, HL2.out, by omega, by omega, HP2.out, HY.out, BT.out⟩, by simp [intOf]; omega⟩
        · have hev : enV now ins x.wk = 0 := by unfold enV; rw [if_neg he]
          have he' : (enC ins x.wk == 0) = false := by simpa using he
          have he2 : (enC ins x.wk != 0) = true := by simpa using he
          rw [hev]
          generalize enC ins x.wk = ec at he' he2
          clear he hev
          go_wp2_with fail
          refine (in_any w8 g gi now (enI now ins x.wk) x.wk (by rw [enI_length]; exact (by have := HLN.out; omega)) C8.out).mono ?_
          rintro e w9 ⟨rfl, d9, rfl⟩
          generalize inV (enI now ins x.wk) x.wk = iv
          have C9 := Lib.hid (C8.out.drewN d9)
          have B9 := Lib.hid (below_drewN B8.out d9)
          generalize w8.drewN d9 = w9 at C9 B9 ⊢
          clear f0 f1 f3
          have hge : U ≤ oldV (now) (enI now ins x.wk) := by rw [← HU.out]; exact oldV_step (Int.le_refl _) (fun x hx _ => enI_mem hx)
          have hle := oldV_le (now) (enI now ins x.wk)
          have hlen : (enI now ins x.wk).length ≤ 4 := (by rw [enI_length]; exact (by have := HLN.out; omega))
          have hlen2 : (enI now ins x.wk).length = N := (by rw [enI_length]; exact HLN.out)
          have hpos2 : Pos (enI now ins x.wk) := (HPOS.out.enI now (by omega) x.wk)
          have CT : Hid (ClockAt w9 g gi (now) (enI now ins x.wk)) := Lib.hid C9.out
          have BT : Hid (Below w.heap.size w w9) := Lib.hid B9.out
          obtain ⟨I, hI⟩ : ∃ I, (enI now ins x.wk) = I := ⟨_, rfl⟩
          rw [hI] at hge hle hlen hlen2 hpos2 CT
          clear hI
          obtain ⟨Y, hY⟩ : ∃ Y, oldV (now) I = Y := ⟨_, rfl⟩
          rw [hY] at hge hle
          have HY := Lib.hid hY
          have HL := Lib.hid hlen
          have HL2 := Lib.hid hlen2
          have HP2 := Lib.hid hpos2
          clear hY hlen hlen2 hpos2
          have q1 : ¬ (now) < now := by omega
          have q2 : ¬ Y < U := by omega
          have q3 : ¬ (now) < Y := by omega
          go_wp2_with fail
          refine (now_any w9 g gi (now) I CT.out).mono ?_
          rintro e w20 ⟨rfl, rfl⟩
          go_wp2_with fail
          refine (oldest_any w9 g gi (now) I HL.out CT.out).mono ?_
          rintro e w20 ⟨rfl, rfl⟩
          rw [HY.out]
          go_wp2_with fail
          refine (oldest_any w9 g gi (now) I HL.out CT.out).mono ?_
          rintro e w20 ⟨rfl, rfl⟩
          rw [HY.out]
          go_wp2_with fail
          refine (now_any w9 g gi (now) I CT.out).mono ?_
          rintro e w20 ⟨rfl, rfl⟩
          go_wp2_with fail
          refine (now_any w9 g gi (now) I CT.out).mono ?_
          rintro e w20 ⟨rfl, rfl⟩
          go_wp2_with fail
          refine (oldest_any w9 g gi (now) I HL.out CT.out).mono ?_
          rintro e w20 ⟨rfl, rfl⟩
          rw [HY.out]
          go_wp2_with fail
          refine ⟨⟨k + 1, now, I, Y, by omega, rfl, rfl, by go_num, CT.out, HL2.out, by omega, by omega, HP2.out, HY.out, BT.out⟩, by simp [intOf]; omega⟩
      · have h0' : (x.kind == 0) = false := by simpa using h0
        by_cases h1 : x.kind = 1
        · have h1' : (x.kind == 1) = true := by simpa using h1
          clear h0 h1
          have HQ := Lib.hid (Ob.fresh wx 3 (iarr [x.wk]))
          have CA := Lib.hid (CX.out.below (below_alloc (Below.refl wx.heap.size wx) (.cells #[.int .i64 x.wk] 3)))
          have BA := Lib.hid (below_alloc BX.out (.cells #[.int .i64 x.wk] 3))
          have hgx : gi < wx.heap.size := CX.out.2.lt
          go_wp2_with fail
          refine (leave_any (wx.alloc (.cells #[.int .i64 x.wk] 3)) g gi now ins [x.wk] (some ⟨wx.heap.size, 0, none⟩) 1 1 rfl (by omega) (by have := HLN.out; omega) CA.out (Sl.fresh wx #[.int .i64 x.wk] 3 (0, 0)) (fun p hp _ => by injection hp with hp; subst hp; show wx.heap.size ≠ gi; omega)).mono ?_
          rintro e w9 ⟨rfl, h9, n9⟩
          have C9 := Lib.hid h9
          have B9 := Lib.hid (Only.below BA.out n9 BA.out.size hgi0)
          generalize lvC ins [x.wk] = lc
          clear h9 n9 f0 f1
          have hge : U ≤ oldV (now) (lvI ins [x.wk]) := by rw [← HU.out]; exact oldV_step (Int.le_refl _) (fun x hx h0 => .inl (lvI_mem hx h0))
          have hle := oldV_le (now) (lvI ins [x.wk])
          have hlen : (lvI ins [x.wk]).length ≤ 4 := (by rw [lvI_length]; exact (by have := HLN.out; omega))
          have hlen2 : (lvI ins [x.wk]).length = N := (by rw [lvI_length]; exact HLN.out)
          have hpos2 : Pos (lvI ins [x.wk]) := (HPOS.out.lvI _)
          have CT : Hid (ClockAt w9 g gi (now) (lvI ins [x.wk])) := Lib.hid C9.out
          have BT : Hid (Below w.heap.size w w9) := Lib.hid B9.out
          obtain ⟨I, hI⟩ : ∃ I, (lvI ins [x.wk]) = I := ⟨_, rfl⟩
          rw [hI] at hge hle hlen hlen2 hpos2 CT
          clear hI
          obtain ⟨Y, hY⟩ : ∃ Y, oldV (now) I = Y := ⟨_, rfl⟩
          rw [hY] at hge hle
          have HY := Lib.hid hY
          have HL := Lib.hid hlen
          have HL2 := Lib.hid hlen2
          have HP2 := Lib.hid hpos2
          clear hY hlen hlen2 hpos2
          have q1 : ¬ (now) < now := by omega
          have q2 : ¬ Y < U := by omega
          have q3 : ¬ (now) < Y := by omega
          go_wp2_with fail
          refine (now_any w9 g gi (now) I CT.out).mono ?_
          rintro e w20 ⟨rfl, rfl⟩
          go_wp2_with fail
          refine (oldest_any w9 g gi (now) I HL.out CT.out).mono ?_
          rintro e w20 ⟨rfl, rfl⟩
          rw [HY.out]
          go_wp2_with fail
          refine (oldest_any w9 g gi (now) I HL.out CT.out).mono ?_
          rintro e w20 ⟨rfl, rfl⟩
          rw [HY.out]
          go_wp2_with fail
          refine (now_any w9 g gi (now) I CT.out).mono ?_
          rintro e w20 ⟨rfl, rfl⟩
          go_wp2_with fail
          refine (now_any w9 g gi (now) I CT.out).mono ?_
          rintro e w20 ⟨rfl, rfl⟩
          go_wp2_with fail
          refine (oldest_any w9 g gi (now) I HL.out CT.out).mono ?_
          rintro e w20 ⟨rfl, rfl⟩
          rw [HY.out]
          go_wp2_with fail
          refine ⟨⟨k + 1, now, I, Y, by omega, rfl, rfl, by go_num, CT.out, HL2.out, by omega, by omega, HP2.out, HY.out, BT.out⟩, by simp [intOf]; omega⟩
        · have h1' : (x.kind == 1) = false := by simpa using h1
          by_cases h2 : x.kind = 2
          · have h2' : (x.kind == 2) = true := by simpa using h2
            clear h0 h1 h2
            go_wp2_with fail
            refine (advance_any wx g gi now ins (by omega) (by omega) CX.out).mono ?_
            rintro e w9 ⟨rfl, h9, n9⟩
            have C9 := Lib.hid h9
            have B9 := Lib.hid (Only.below BX.out n9 BX.out.size hg0)
            clear h9 n9 f0 f1
            have hge : U ≤ oldV (now + 1) (ins) := by rw [← HU.out]; exact oldV_step (by omega) (fun x hx _ => .inl hx)
            have hle := oldV_le (now + 1) (ins)
            have hlen : (ins).length ≤ 4 := (by have := HLN.out; omega)
            have hlen2 : (ins).length = N := HLN.out
            have hpos2 : Pos (ins) := HPOS.out
            have CT : Hid (ClockAt w9 g gi (now + 1) (ins)) := Lib.hid C9.out
            have BT : Hid (Below w.heap.size w w9) := Lib.hid B9.out
            obtain ⟨I, hI⟩ : ∃ I, (ins) = I := ⟨_, rfl⟩
            rw [hI] at hge hle hlen hlen2 hpos2 CT
            clear hI
            obtain ⟨Y, hY⟩ : ∃ Y, oldV (now + 1) I = Y := ⟨_, rfl⟩
            rw [hY] at hge hle
            have HY := Lib.hid hY
            have HL := Lib.hid hlen
            have HL2 := Lib.hid hlen2
            have HP2 := Lib.hid hpos2
            clear hY hlen hlen2 hpos2
            have q1 : ¬ (now + 1) < now := by omega
            have q2 : ¬ Y < U := by omega
            have q3 : ¬ (now + 1) < Y := by omega
            go_wp2_with fail
            refine (now_any w9 g gi (now + 1) I CT.out).mono ?_
            rintro e w20 ⟨rfl, rfl⟩
            go_wp2_with fail
            refine (oldest_any w9 g gi (now + 1) I HL.out CT.out).mono ?_
            rintro e w20 ⟨rfl, rfl⟩
            rw [HY.out]
            go_wp2_with fail
            refine (oldest_any w9 g gi (now + 1) I HL.out CT.out).mono ?_
            rintro e w20 ⟨rfl, rfl⟩
            rw [HY.out]
            go_wp2_with fail
            refine (now_any w9 g gi (now + 1) I CT.out).mono ?_
            rintro e w20 ⟨rfl, rfl⟩
            go_wp2_with fail
            refine (now_any w9 g gi (now + 1) I CT.out).mono ?_
            rintro e w20 ⟨rfl, rfl⟩
            go_wp2_with fail
            refine (oldest_any w9 g gi (now + 1) I HL.out CT.out).mono ?_
            rintro e w20 ⟨rfl, rfl⟩
            rw [HY.out]
            go_wp2_with fail
            refine ⟨⟨k + 1, now + 1, I, Y, by omega, rfl, rfl, by go_num, CT.out, HL2.out, by omega, by omega, HP2.out, HY.out, BT.out⟩, by simp [intOf]; omega⟩
          · have h2' : (x.kind == 2) = false := by simpa using h2
            clear h0 h1 h2
            have C9 := CX
            have B9 := BX
            have hge : U ≤ oldV (now) (ins) := by rw [← HU.out]; exact oldV_step (Int.le_refl _) (fun x hx _ => .inl hx)
            have hle := oldV_le (now) (ins)
            have hlen : (ins).length ≤ 4 := (by have := HLN.out; omega)
            have hlen2 : (ins).length = N := HLN.out
            have hpos2 : Pos (ins) := HPOS.out
            have CT : Hid (ClockAt wx g gi (now) (ins)) := Lib.hid C9.out
            have BT : Hid (Below w.heap.size w wx) := Lib.hid B9.out
            obtain ⟨I, hI⟩ : ∃ I, (ins) = I := ⟨_, rfl⟩
            rw [hI] at hge hle hlen hlen2 hpos2 CT
            clear hI
            obtain ⟨Y, hY⟩ : ∃ Y, oldV (now) I = Y := ⟨_, rfl⟩
            rw [hY] at hge hle
            have HY := Lib.hid hY
            have HL := Lib.hid hlen
            have HL2 := Lib.hid hlen2
            have HP2 := Lib.hid hpos2
            clear hY hlen hlen2 hpos2
            have q1 : ¬ (now) < now := by omega
            have q2 : ¬ Y < U := by omega
            have q3 : ¬ (now) < Y := by omega
            go_wp2_with fail
            refine (now_any wx g gi (now) I CT.out).mono ?_
            rintro e w20 ⟨rfl, rfl⟩
            go_wp2_with fail
            refine (oldest_any wx g gi (now) I HL.out CT.out).mono ?_
            rintro e w20 ⟨rfl, rfl⟩
            rw [HY.out]
            go_wp2_with fail
            refine (oldest_any wx g gi (now) I HL.out CT.out).mono ?_
            rintro e w20 ⟨rfl, rfl⟩
            rw [HY.out]
            go_wp2_with fail
            refine (now_any wx g gi (now) I CT.out).mono ?_
            rintro e w20 ⟨rfl, rfl⟩
            go_wp2_with fail
            refine (now_any wx g gi (now) I CT.out).mono ?_
            rintro e w20 ⟨rfl, rfl⟩
            go_wp2_with fail
            refine (oldest_any wx g gi (now) I HL.out CT.out).mono ?_
            rintro e w20 ⟨rfl, rfl⟩
            rw [HY.out]
            go_wp2_with fail
            refine ⟨⟨k + 1, now, I, Y, by omega, rfl, rfl, by go_num, CT.out, HL2.out, by omega, by omega, HP2.out, HY.out, BT.out⟩, by simp [intOf]; omega⟩
    · have g1 : ¬ (k : Int) < (n : Int) := by omega
      have g2 : (1 : Int) ≤ now := hn1
      go_wp2_with fail
      go_ret
      exact ⟨rfl, B.out⟩

set_option maxRecDepth 100000 in
set_option maxHeartbeats 1000000 in
theorem rises_bad (w : World) (z : Int) (hz : z < 1 ∨ 4 < z) (v : Value) :
    Calls Try.prog 6 #[.int .i64 z, v] w fun e w' => e = .returned (.bool true) ∧ Below w.heap.size w w' := by
  have HZ := Lib.hid hz
  clear hz
  go_enter Try.func6, Try.ntmps6
  go_wp2_with fail
  refine (awake_any w).mono ?_
  rintro e wa ⟨rfl, hba⟩
  have HBA := Lib.hid hba
  clear hba
  go_wp2_with fail
  refine (new_bad wa z HZ.out).mono ?_
  rintro e w1 ⟨rfl, rfl⟩
  go_wp2_with fail
  go_ret
  exact ⟨rfl, HBA.out⟩

theorem rises_law (w : World) (z : Int) (_ : (Lit.int .i64 z).wf = true) (l : List OpE) (v : Value) (hr : RdOps w v l) :
    Calls Try.prog 6 #[.int .i64 z, v] w fun e w' => e = .returned (.bool true) ∧ Below w.heap.size w w' := by
  by_cases hz : 1 ≤ z ∧ z ≤ 4
  · obtain ⟨⟨A, c, rfl, hc, hb⟩, hm⟩ := hr
    obtain ⟨N, rfl⟩ : ∃ N : Nat, z = (N : Int) := ⟨z.toNat, by omega⟩
    exact rises_walk w N (by omega) (by omega) l A c l.length rfl (by omega) hb
  · exact rises_bad w z (by omega) v

end Go.Proofs.Ytaclegafgkbmaaa
