/-
  The walk of the law SpanOrder. Conditions: at most 1048576 spans.
-/
import Derived.Test.YtchlokhmcadgaaaSpanO
import Derived.Test.YtchlokhmcadgaaaBulk
namespace Go.Proofs.Ytchlokhmcadgaaa
open Go.RowKit

/-- the list from its end, each twice -/
def dd : List SpanV → List SpanV
  | [] => []
  | s :: r => dd r ++ [s, s]
theorem dd_length : ∀ l, (dd l).length = 2 * l.length
  | [] => rfl
  | s :: r => by rw [dd, List.length_append, dd_length r]; simp; omega
theorem mn_comm (f : SpanV → Int) : ∀ (l : List SpanV) (a y : Int), l.foldl (fun a s => mn a (f s)) (mn a y) = mn (l.foldl (fun a s => mn a (f s)) a) y
  | [], _, _ => rfl
  | s :: r, a, y => by
    rw [List.foldl_cons, List.foldl_cons, ← mn_comm f r (mn a (f s)) y]
    congr 1
    unfold mn
    repeat' split
    all_goals omega
theorem mx_comm (f : SpanV → Int) : ∀ (l : List SpanV) (a y : Int), l.foldl (fun a s => mx a (f s)) (mx a y) = mx (l.foldl (fun a s => mx a (f s)) a) y
  | [], _, _ => rfl
  | s :: r, a, y => by
    rw [List.foldl_cons, List.foldl_cons, ← mx_comm f r (mx a (f s)) y]
    congr 1
    unfold mx
    repeat' split
    all_goals omega
theorem mn_dd (f : SpanV → Int) : ∀ (l : List SpanV) (a : Int), (dd l).foldl (fun a s => mn a (f s)) a = l.foldl (fun a s => mn a (f s)) a
  | [], _ => rfl
  | s :: r, a => by
    have h : ∀ X y : Int, mn (mn X y) y = mn X y := by
      intro X y
      unfold mn
      repeat' split
      all_goals omega
    rw [dd, List.foldl_append, mn_dd f r a, List.foldl_cons (l := r), mn_comm]
    exact h _ _
theorem mx_dd (f : SpanV → Int) : ∀ (l : List SpanV) (a : Int), (dd l).foldl (fun a s => mx a (f s)) a = l.foldl (fun a s => mx a (f s)) a
  | [], _ => rfl
  | s :: r, a => by
    have h : ∀ X y : Int, mx (mx X y) y = mx X y := by
      intro X y
      unfold mx
      repeat' split
      all_goals omega
    rw [dd, List.foldl_append, mx_dd f r a, List.foldl_cons (l := r), mx_comm]
    exact h _ _
theorem allR_dd : ∀ l, allR (dd l) = allR l
  | [] => rfl
  | s :: r => by
    have ih := allR_dd r
    unfold allR at ih ⊢
    rw [dd, List.all_append, ih, List.all_cons]
    simp only [List.all_cons, List.all_nil, Bool.and_true, Bool.and_self]
    exact Bool.and_comm _ _
theorem jnV_dd (l : List SpanV) : jnV (dd l) = jnV l ∧ jnB (dd l) = jnB l ∧ mtV (dd l) = mtV l ∧ mtB (dd l) = mtB l := by
  have h1 : loMin (dd l) = loMin l := mn_dd _ l _
  have h2 : hiMax (dd l) = hiMax l := mx_dd _ l _
  have h3 : loMax (dd l) = loMax l := mx_dd _ l _
  have h4 : hiMin (dd l) = hiMin l := mn_dd _ l _
  have h5 := allR_dd l
  have h6 : 0 < (dd l).length ↔ 0 < l.length := by rw [dd_length]; omega
  unfold jnV jnB mtV mtB
  rw [h1, h2, h3, h4, h5]
  simp only [h6]
  exact ⟨trivial, trivial, trivial, trivial⟩
theorem mn_le (f : SpanV → Int) : ∀ (l : List SpanV) (a : Int), l.foldl (fun a s => mn a (f s)) a ≤ a ∧ ∀ s ∈ l, l.foldl (fun a s => mn a (f s)) a ≤ f s
  | [], a => ⟨Int.le_refl _, fun s h => absurd h (by simp)⟩
  | x :: r, a => by
    have ih := mn_le f r (mn a (f x))
    rw [List.foldl_cons]
    have h1 : mn a (f x) ≤ a ∧ mn a (f x) ≤ f x := by unfold mn; split <;> omega
    refine ⟨by omega, fun s hs => ?_⟩
    rcases List.mem_cons.1 hs with rfl | hs
    · omega
    · exact ih.2 s hs
theorem mx_ge (f : SpanV → Int) : ∀ (l : List SpanV) (a : Int), a ≤ l.foldl (fun a s => mx a (f s)) a ∧ ∀ s ∈ l, f s ≤ l.foldl (fun a s => mx a (f s)) a
  | [], a => ⟨Int.le_refl _, fun s h => absurd h (by simp)⟩
  | x :: r, a => by
    have ih := mx_ge f r (mx a (f x))
    rw [List.foldl_cons]
    have h1 : a ≤ mx a (f x) ∧ f x ≤ mx a (f x) := by unfold mx; split <;> omega
    refine ⟨by omega, fun s hs => ?_⟩
    rcases List.mem_cons.1 hs with rfl | hs
    · omega
    · exact ih.2 s hs
theorem drop_span (l : List SpanV) (k : Nat) (h : k < l.length) : l.drop k = l.getD k sp0 :: l.drop (k + 1) := by
  rw [List.drop_eq_getElem_cons h, List.getD_eq_getElem?_getD, List.getElem?_eq_getElem h]; rfl
theorem jn_in {l : List SpanV} (h : jnB l = true) {s : SpanV} (hs : s ∈ l) : withinB s.lo s.hi (jnV l).lo (jnV l).hi = true := by
  unfold jnB at h
  have h1 := of_decide_eq_true h
  unfold jnV
  rw [if_pos h1]
  have hr : s.lo ≤ s.hi := by have := List.all_eq_true.1 h1.1 s hs; simpa using this
  exact decide_eq_true ⟨hr, (mn_le (·.lo) l _).2 s hs, (mx_ge (·.hi) l _).2 s hs⟩
theorem mt_in {l : List SpanV} (h : mtB l = true) {s : SpanV} (hs : s ∈ l) : withinB (mtV l).lo (mtV l).hi s.lo s.hi = true := by
  unfold mtB at h
  have h1 := of_decide_eq_true h
  unfold mtV
  rw [if_pos h1]
  exact decide_eq_true ⟨h1.2.2, (mx_ge (·.lo) l _).2 s hs, (mn_le (·.hi) l _).2 s hs⟩
theorem mt_jn {l : List SpanV} (h : mtB l = true) : jnB l = true := by
  unfold mtB at h
  have h1 := of_decide_eq_true h
  exact decide_eq_true ⟨h1.1, h1.2.1⟩

set_option maxRecDepth 100000 in
set_option maxHeartbeats 16000000 in
theorem order_walk (w : World) (l : List SpanV) (A : Option Addr) (n c : Nat) (hn : n = l.length) (hm : n ≤ 1048576) (hs : Sl w A (sps l)) :
    Calls Try.prog 5 #[.slice A n c] w fun e w' => e = .returned (.bool true) ∧ Below w.heap.size w w' := by
  have HN := Lib.hid hn
  have HS := Lib.hid hs
  clear hn hs
  obtain ⟨i0, hi0, hz0, hz1, hz2⟩ := info_parts span_info
  go_enter Try.func5, Try.ntmps5
  go_wp2_with fail
  refine (awake_any w).mono ?_
  rintro e w0 ⟨rfl, b0⟩
  have B0 := Lib.hid b0
  clear b0
  go_wp2_with fail
  go_loopw [3, 4, 5] (fun u r i wr => ∃ k : Nat, k ≤ n ∧ i = .int .i64 ((k : Int) - 1) ∧ wr.ownsRow w.heap.size 26 2 u (2 * (n - k)) (sps (dd (l.drop k))) ∧ r = .bool (decide ((0 : Int) < n) && allR (l.drop k)) ∧ Below w.heap.size w wr) (fun _ _ i _ => (intOf i + 1).toNat)
  case atStart =>
    refine ⟨n, Nat.le_refl _, rfl, ?_, ?_, B0.out⟩
    · rw [Nat.sub_self, List.drop_of_length_le (by rw [← HN.out]; omega)]
      exact World.ownsRow_nil _ _ _ _
    · rw [List.drop_of_length_le (by rw [← HN.out]; omega)]
      simp [allR]
  case round =>
    obtain ⟨k, hk, rfl, hown, rfl, hb⟩ := hrel
    have R := Lib.hid hown
    have BB := Lib.hid hb
    clear hown hb B0
    rcases k with _ | j
    · have hnz := Lib.hid HN.out
      rw [List.drop_zero] at R ⊢
      have HR0 := Lib.hid R.out
      clear R
      obtain ⟨A3, c3, rfl, _, _, hsb, _⟩ := own_form HR0.out
      have SB := Lib.hid hsb
      clear hsb
      have hjb : (decide ((0 : Int) < n) && allR l) = jnB l := by
        unfold jnB
        rw [← HN.out, Bool.and_comm]
        by_cases h0 : 0 < n
        · rw [decide_eq_true (show (0 : Int) < n by omega), Bool.and_true]
          cases allR l <;> simp [h0]
        · rw [decide_eq_false (show ¬ (0 : Int) < n by omega), Bool.and_false]
          simp [h0]
      rw [hjb]
      clear hjb
      rw [Nat.sub_zero]
      have HDL := Lib.hid (show 2 * n = (dd l).length by rw [dd_length, HN.out])
      have HDD := Lib.hid (jnV_dd l)
      have C1 := Lib.hid (fun w A c (hs : Sl w A (sps l)) => join_any w l A n c HN.out (by omega) hs)
      have C2 := Lib.hid (fun w A c (hs : Sl w A (sps (dd l))) => join_any w (dd l) A (2 * n) c HDL.out (by omega) hs)
      have C3 := Lib.hid (fun w A c (hs : Sl w A (sps l)) => meet_any w l A n c HN.out (by omega) hs)
      have C4 := Lib.hid (fun w A c (hs : Sl w A (sps (dd l))) => meet_any w (dd l) A (2 * n) c HDL.out (by omega) hs)
      rw [HDD.out.1, HDD.out.2.1] at C2
      rw [HDD.out.2.2.1, HDD.out.2.2.2] at C4
      have HIN := Lib.hid (fun (s : SpanV) (hs : s ∈ l) (h : jnB l = true) => jn_in h hs)
      have HIM := Lib.hid (fun (s : SpanV) (hs : s ∈ l) (h : mtB l = true) => mt_in h hs)
      have HMJ := Lib.hid (fun (h : mtB l = true) => mt_jn h)
      clear HDD
      obtain ⟨jv, hjv⟩ : ∃ v, jnV l = v := ⟨_, rfl⟩
      obtain ⟨jb, hjb⟩ : ∃ v, jnB l = v := ⟨_, rfl⟩
      obtain ⟨mv, hmv⟩ : ∃ v, mtV l = v := ⟨_, rfl⟩
      obtain ⟨mb, hmb⟩ : ∃ v, mtB l = v := ⟨_, rfl⟩
      rw [hjv, hjb] at C1 C2 HIN
      rw [hmv, hmb] at C3 C4 HIM
      rw [hmb, hjb] at HMJ
      rw [hjb]
      clear hjv hjb hmv hmb
      obtain ⟨jl, jh⟩ := jv
      obtain ⟨ml, mh⟩ := mv
      unfold spVal at C1 C2 C3 C4
      dsimp only at C1 C2 C3 C4 HIN HIM
      have hneg : ¬ (0 : Int) ≤ ((0 : Nat) : Int) - 1 := by omega
      have hn2 : (2 : Int) * n = ((2 * n : Nat) : Int) := by omega
      go_wp2_with fail
      refine (C1.out wr A c (HS.out.below BB.out)).mono ?_
      rintro e wu1 ⟨rfl, bu⟩
      have BL1 := Lib.hid (below_alloc bu (.cells #[.int .u64 jl, .int .u64 jh] 26))
      have BG1 := Lib.hid (below_alloc (BB.out.trans (bu.mono BB.out.size)) (.cells #[.int .u64 jl, .int .u64 jh] 26))
      have OB1 := Lib.hid (Ob.fresh wu1 26 [.int .u64 jl, .int .u64 jh])
      clear bu
      go_upto_region 11 with fail
      generalize wu1.alloc (.cells #[.int .u64 jl, .int .u64 jh] 26) = wv1 at BL1 BG1 OB1 ⊢
      generalize wu1.heap.size = p1 at OB1 ⊢
      go_wp2_with fail
      refine (C2.out wv1 A3 c3 (SB.out.below BL1.out)).mono ?_
      rintro e wu2 ⟨rfl, bu⟩
      have BL2 := Lib.hid ((BL1.out.trans (bu.mono BL1.out.size)).alloc (BL1.out.trans (bu.mono BL1.out.size)).size (.cells #[.int .u64 jl, .int .u64 jh] 26))
      have BG2 := Lib.hid (below_alloc (BG1.out.trans (bu.mono BG1.out.size)) (.cells #[.int .u64 jl, .int .u64 jh] 26))
      have OB2 := Lib.hid (Ob.fresh wu2 26 [.int .u64 jl, .int .u64 jh])
      have OB1n := Lib.hid ((OB1.out.below bu OB1.out.lt).alloc (.cells #[.int .u64 jl, .int .u64 jh] 26))
      clear bu OB1
      go_upto_region 12 with fail
      generalize wu2.alloc (.cells #[.int .u64 jl, .int .u64 jh] 26) = wv2 at BL2 BG2 OB2 OB1n ⊢
      generalize wu2.heap.size = p2 at OB2 ⊢
      go_wp2_with fail
      refine (C3.out wv2 A c (HS.out.below BG2.out)).mono ?_
      rintro e wu3 ⟨rfl, bu⟩
      have BL3 := Lib.hid ((BL2.out.trans (bu.mono BL2.out.size)).alloc (BL2.out.trans (bu.mono BL2.out.size)).size (.cells #[.int .u64 ml, .int .u64 mh] 26))
      have BG3 := Lib.hid (below_alloc (BG2.out.trans (bu.mono BG2.out.size)) (.cells #[.int .u64 ml, .int .u64 mh] 26))
      have OB3 := Lib.hid (Ob.fresh wu3 26 [.int .u64 ml, .int .u64 mh])
      have OB1nn := Lib.hid ((OB1n.out.below bu OB1n.out.lt).alloc (.cells #[.int .u64 ml, .int .u64 mh] 26))
      have OB2n := Lib.hid ((OB2.out.below bu OB2.out.lt).alloc (.cells #[.int .u64 ml, .int .u64 mh] 26))
      clear bu OB1n OB2
      go_upto_region 13 with fail
      generalize wu3.alloc (.cells #[.int .u64 ml, .int .u64 mh] 26) = wv3 at BL3 BG3 OB3 OB1nn OB2n ⊢
      generalize wu3.heap.size = p3 at OB3 ⊢
      go_wp2_with fail
      refine (C4.out wv3 A3 c3 (SB.out.below BL3.out)).mono ?_
      rintro e wu4 ⟨rfl, bu⟩
      have BL4 := Lib.hid ((BL3.out.trans (bu.mono BL3.out.size)).alloc (BL3.out.trans (bu.mono BL3.out.size)).size (.cells #[.int .u64 ml, .int .u64 mh] 26))
      have BG4 := Lib.hid (below_alloc (BG3.out.trans (bu.mono BG3.out.size)) (.cells #[.int .u64 ml, .int .u64 mh] 26))
      have OB4 := Lib.hid (Ob.fresh wu4 26 [.int .u64 ml, .int .u64 mh])
      have OB1nnn := Lib.hid ((OB1nn.out.below bu OB1nn.out.lt).alloc (.cells #[.int .u64 ml, .int .u64 mh] 26))
      have OB2nn := Lib.hid ((OB2n.out.below bu OB2n.out.lt).alloc (.cells #[.int .u64 ml, .int .u64 mh] 26))
      have OB3n := Lib.hid ((OB3.out.below bu OB3.out.lt).alloc (.cells #[.int .u64 ml, .int .u64 mh] 26))
      clear bu OB1nn OB2n OB3
      go_upto_region 14 with fail
      generalize wu4.alloc (.cells #[.int .u64 ml, .int .u64 mh] 26) = wv4 at BL4 BG4 OB4 OB1nnn OB2nn OB3n ⊢
      generalize wu4.heap.size = p4 at OB4 ⊢
      have x00 : wv4.cell? ⟨p1, 0, none⟩ = some (.int .u64 jl) := OB1nnn.out.cell 0
      have x01 : wv4.cell? ⟨p1, 1, none⟩ = some (.int .u64 jh) := OB1nnn.out.cell 1
      have x10 : wv4.cell? ⟨p2, 0, none⟩ = some (.int .u64 jl) := OB2nn.out.cell 0
      have x11 : wv4.cell? ⟨p2, 1, none⟩ = some (.int .u64 jh) := OB2nn.out.cell 1
      have x20 : wv4.cell? ⟨p3, 0, none⟩ = some (.int .u64 ml) := OB3n.out.cell 0
      have x21 : wv4.cell? ⟨p3, 1, none⟩ = some (.int .u64 mh) := OB3n.out.cell 1
      have x30 : wv4.cell? ⟨p4, 0, none⟩ = some (.int .u64 ml) := OB4.out.cell 0
      have x31 : wv4.cell? ⟨p4, 1, none⟩ = some (.int .u64 mh) := OB4.out.cell 1
      have hmj : mb = true → jb = true := HMJ.out
      cases jb
      · have hmb : mb = false := by cases mb with | false => rfl | true => exact absurd (hmj rfl) (by decide)
        subst hmb
        go_wp2_with fail
        go_loopw [14] (fun i wq => i = .int .i64 0 ∧ wv4 = wq) (fun i _ => 0)
        case atStart => exact ⟨rfl, rfl⟩
        case round =>
          obtain ⟨rfl, rfl⟩ := hrel
          by_cases hn0 : (0 : Int) < (n : Int)
          · go_wp2_with fail
            go_ret
            exact ⟨rfl, BG4.out⟩
          · go_wp2_with fail
            go_ret
            exact ⟨rfl, BG4.out⟩
      · have HIN2 := Lib.hid (fun s hs => HIN.out s hs rfl)
        clear hmj
        cases mb
        · go_wp2_with fail
          go_loopw [14] (fun i wq => ∃ k : Nat, k ≤ n ∧ i = .int .i64 k ∧ Below wv4.heap.size wv4 wq) (fun i _ => n - (intOf i).toNat)
          case atStart => exact ⟨0, Nat.zero_le _, rfl, Below.refl _ _⟩
          case round =>
            obtain ⟨k, hk, rfl, hbq⟩ := hrel
            have BQ := Lib.hid hbq
            have BW := Lib.hid (BG4.out.trans (hbq.mono BG4.out.size))
            have OR1 := Lib.hid (OB1nnn.out.below hbq OB1nnn.out.lt)
            have OR3 := Lib.hid (OB3n.out.below hbq OB3n.out.lt)
            clear hbq x00 x01 x10 x11 x20 x21 x30 x31
            by_cases hlk : k < n
            · have g1 : (k : Int) < (n : Int) := by omega
              have hkl : k < l.length := by have := HN.out; omega
              obtain ⟨b, o, rfl, hbl, hcc⟩ := sps_at HS.out (by omega)
              have F0 := Lib.hid ((BW.out.cell hbl).trans (hcc k hkl).1)
              have F1 := Lib.hid ((BW.out.cell hbl).trans (hcc k hkl).2)
              have hmem : l.getD k sp0 ∈ l := by rw [List.getD_eq_getElem?_getD, List.getElem?_eq_getElem hkl]; exact List.getElem_mem hkl
              have HW1v := Lib.hid (HIN2.out _ hmem)
              clear hcc hkl hmem
              generalize l.getD k sp0 = s at F0 F1 HW1v
              obtain ⟨sl, sh⟩ := s
              dsimp only at F0 F1 HW1v
              have HW1 := Lib.hid (fun w => within_any w sl sh jl jh)
              rw [HW1v.out] at HW1
              unfold spVal at HW1
              have f0 : wr.cell? ⟨b, o + k * 2, none⟩ = some (.int .u64 sl) := ((Below.refl wr.heap.size wr).cell (cell_lt F0.out)).trans F0.out
              have f1 : wr.cell? ⟨b, o + k * 2 + 1, none⟩ = some (.int .u64 sh) := ((Below.refl wr.heap.size wr).cell (cell_lt F1.out)).trans F1.out
              have f2 : wr.cell? ⟨p1, 0, none⟩ = some (.int .u64 jl) := (OR1.out.below (Below.refl wr.heap.size wr) OR1.out.lt).cell 0
              have f3 : wr.cell? ⟨p1, 1, none⟩ = some (.int .u64 jh) := (OR1.out.below (Below.refl wr.heap.size wr) OR1.out.lt).cell 1
              go_upto_region 19 with fail
              refine wp_region_held_drew (S := fun w' => w'.cell? ⟨b, o + k * 2, none⟩ = some (.int .u64 sl) ∧ w'.cell? ⟨b, o + k * 2 + 1, none⟩ = some (.int .u64 sh) ∧ w'.cell? ⟨p1, 0, none⟩ = some (.int .u64 jl) ∧ w'.cell? ⟨p1, 1, none⟩ = some (.int .u64 jh)) (by kernel_rfl) ⟨f0, f1, f2, f3⟩ (fun hHeld => ?_)
              refine wpAnyH_take (i := 0) (v := ?_) rfl (by kernel_rfl) (by kernel_rfl) (by kernel_rfl) (fun _ _ _ h => h) (Or.inl ⟨by rfl, ?_⟩) (by assumption) ?_
              rotate_left
              · (intro w' hSw; (try dsimp only at hSw); go_simp; try with_reducible rfl)
              try simp only [Act.put, List.getElem_toArray, List.getElem_cons_succ, List.getElem_cons_zero]
              refine wpAnyH_take (i := 1) (v := ?_) rfl (by kernel_rfl) (by kernel_rfl) (by kernel_rfl) (fun _ _ _ h => h) (Or.inl ⟨by rfl, ?_⟩) (by assumption) ?_
              rotate_left
              · (intro w' hSw; (try dsimp only at hSw); go_simp; try with_reducible rfl)
              try simp only [Act.put, List.getElem_toArray, List.getElem_cons_succ, List.getElem_cons_zero]
              refine wpAnyH_take (i := 2) (v := ?_) rfl (by kernel_rfl) (by kernel_rfl) (by kernel_rfl) (fun _ _ _ h => h) (Or.inl ⟨by rfl, ?_⟩) (by assumption) ?_
              rotate_left
              · (intro w' hSw; (try dsimp only at hSw); go_simp; try with_reducible rfl)
              try simp only [Act.put, List.getElem_toArray, List.getElem_cons_succ, List.getElem_cons_zero]
              refine wpAnyH_take (i := 3) (v := ?_) rfl (by kernel_rfl) (by kernel_rfl) (by kernel_rfl) (fun _ _ _ h => h) (Or.inl ⟨by rfl, ?_⟩) (by assumption) ?_
              rotate_left
              · (intro w' hSw; (try dsimp only at hSw); go_simp; try with_reducible rfl)
              try simp only [Act.put, List.getElem_toArray, List.getElem_cons_succ, List.getElem_cons_zero]
              refine wpAnyH_take (i := 4) (v := ?_) rfl (by kernel_rfl) (by kernel_rfl) (by kernel_rfl) (fun _ _ _ h => h) (Or.inl ⟨by rfl, ?_⟩) (by assumption) ?_
              rotate_left
              · (intro w' hSw; (try dsimp only at hSw); go_simp; try with_reducible rfl)
              try simp only [Act.put, List.getElem_toArray, List.getElem_cons_succ, List.getElem_cons_zero]
              refine wpAnyH_ready (rs := [5]) (by kernel_rfl) (by simp) ?_
              refine AllReadyH.cons rfl (fun K' hK => ?_) AllReadyH.nil
              go_simp
              refine (HW1.out wr.drew).mono ?_
              rintro e y1 ⟨rfl, bb⟩
              have E1 : Hid (Below wr.heap.size wr y1) := Lib.hid ((below_drewN (Below.refl wr.heap.size wr) 1).trans bb)
              clear bb
              go_wp2_with fail
              refine hK.out _ _ ⟨(E1.out.cell (cell_lt F0.out)).trans F0.out, (E1.out.cell (cell_lt F1.out)).trans F1.out, (OR1.out.below E1.out OR1.out.lt).cell 0, (OR1.out.below E1.out OR1.out.lt).cell 1⟩ (fun hHeld => ?_)
              clear hK K'
              try simp only [Act.put, List.getElem_toArray, List.getElem_cons_succ, List.getElem_cons_zero]
              refine wpAnyH_take (i := 6) (v := ?_) rfl (by kernel_rfl) (by kernel_rfl) (by kernel_rfl) (fun _ _ _ h => h) (Or.inl ⟨by rfl, ?_⟩) (by assumption) ?_
              rotate_left
              · (intro w' hSw; (try dsimp only at hSw); go_simp; try with_reducible rfl)
              try simp only [Act.put, List.getElem_toArray, List.getElem_cons_succ, List.getElem_cons_zero]
              refine wpAnyH_take (i := 7) (v := ?_) rfl (by kernel_rfl) (by kernel_rfl) (by kernel_rfl) (fun _ _ _ h => h) (Or.inl ⟨by rfl, ?_⟩) (by assumption) ?_
              rotate_left
              · (intro w' hSw; (try dsimp only at hSw); go_simp; try with_reducible rfl)
              try simp only [Act.put, List.getElem_toArray, List.getElem_cons_succ, List.getElem_cons_zero]
              refine wpAnyH_take (i := 8) (v := ?_) rfl (by kernel_rfl) (by kernel_rfl) (by kernel_rfl) (fun _ _ _ h => h) (Or.inl ⟨by rfl, ?_⟩) (by assumption) ?_
              rotate_left
              · (intro w' hSw; (try dsimp only at hSw); go_simp; try with_reducible rfl)
              try simp only [Act.put, List.getElem_toArray, List.getElem_cons_succ, List.getElem_cons_zero]
              refine wpAnyH_take (i := 9) (v := ?_) rfl (by kernel_rfl) (by kernel_rfl) (by kernel_rfl) (fun _ _ _ h => h) (Or.inl ⟨by rfl, ?_⟩) (by assumption) ?_
              rotate_left
              · (intro w' hSw; (try dsimp only at hSw); go_simp; try with_reducible rfl)
              try simp only [Act.put, List.getElem_toArray, List.getElem_cons_succ, List.getElem_cons_zero]
              refine wpAnyH_take (i := 10) (v := undef) rfl (by kernel_rfl) (by kernel_rfl) (by kernel_rfl) (fun _ _ _ h => h) (Or.inr ⟨by kernel_rfl, rfl⟩) (by assumption) ?_
              try simp only [Act.put, List.getElem_toArray, List.getElem_cons_succ, List.getElem_cons_zero]
              refine wpAnyH_take (i := 11) (v := undef) rfl (by kernel_rfl) (by kernel_rfl) (by kernel_rfl) (fun _ _ _ h => h) (Or.inr ⟨by kernel_rfl, rfl⟩) (by assumption) ?_
              try simp only [Act.put, List.getElem_toArray, List.getElem_cons_succ, List.getElem_cons_zero]
              refine wpAnyH_take (i := 12) (v := undef) rfl (by kernel_rfl) (by kernel_rfl) (by kernel_rfl) (fun _ _ _ h => h) (Or.inr ⟨by kernel_rfl, rfl⟩) (by assumption) ?_
              try simp only [Act.put, List.getElem_toArray, List.getElem_cons_succ, List.getElem_cons_zero]
              refine wpAnyH_take (i := 13) (v := undef) rfl (by kernel_rfl) (by kernel_rfl) (by kernel_rfl) (fun _ _ _ h => h) (Or.inr ⟨by kernel_rfl, rfl⟩) (by assumption) ?_
              try simp only [Act.put, List.getElem_toArray, List.getElem_cons_succ, List.getElem_cons_zero]
              refine wpAnyH_take (i := 14) (v := undef) rfl (by kernel_rfl) (by kernel_rfl) (by kernel_rfl) (fun _ _ _ h => h) (Or.inr ⟨by kernel_rfl, rfl⟩) (by assumption) ?_
              try simp only [Act.put, List.getElem_toArray, List.getElem_cons_succ, List.getElem_cons_zero]
              refine wpAnyH_take (i := 15) (v := undef) rfl (by kernel_rfl) (by kernel_rfl) (by kernel_rfl) (fun _ _ _ h => h) (Or.inr ⟨by kernel_rfl, rfl⟩) (by assumption) ?_
              try simp only [Act.put, List.getElem_toArray, List.getElem_cons_succ, List.getElem_cons_zero]
              refine wpAnyH_take (i := 16) (v := undef) rfl (by kernel_rfl) (by kernel_rfl) (by kernel_rfl) (fun _ _ _ h => h) (Or.inr ⟨by kernel_rfl, rfl⟩) (by assumption) ?_
              try simp only [Act.put, List.getElem_toArray, List.getElem_cons_succ, List.getElem_cons_zero]
              refine wpAnyH_take (i := 17) (v := .bool false) rfl (by kernel_rfl) (by kernel_rfl) (by kernel_rfl) (fun _ _ _ h => h) (Or.inl ⟨by kernel_rfl, fun w' _ => by kernel_rfl⟩) (by assumption) ?_
              try simp only [Act.put, List.getElem_toArray, List.getElem_cons_succ, List.getElem_cons_zero]
              refine wpAnyH_take (i := 18) (v := .bool false) rfl (by kernel_rfl) (by kernel_rfl) (by kernel_rfl) (fun _ _ _ h => h) (Or.inl ⟨by kernel_rfl, fun w' _ => by kernel_rfl⟩) (by assumption) ?_
              try simp only [Act.put, List.getElem_toArray, List.getElem_cons_succ, List.getElem_cons_zero]
              refine wpAnyH_done (by kernel_rfl) ?_ _
              simp only [List.setIfInBounds_toArray, List.set_cons_succ, List.set_cons_zero]
              go_wp2_with fail
              go_roundw
              case rel => exact ⟨k + 1, by omega, by go_num, BQ.out.trans (E1.out.mono BQ.out.size)⟩
              case measure => simp [intOf]; omega
            · have g1 : ¬ (k : Int) < (n : Int) := by omega
              go_wp2_with fail
              go_ret
              exact ⟨rfl, BW.out⟩
        · go_wp2_with fail
          go_loopw [14] (fun i wq => ∃ k : Nat, k ≤ n ∧ i = .int .i64 k ∧ Below wv4.heap.size wv4 wq) (fun i _ => n - (intOf i).toNat)
          case atStart => exact ⟨0, Nat.zero_le _, rfl, Below.refl _ _⟩
          case round =>
            obtain ⟨k, hk, rfl, hbq⟩ := hrel
            have BQ := Lib.hid hbq
            have BW := Lib.hid (BG4.out.trans (hbq.mono BG4.out.size))
            have OR1 := Lib.hid (OB1nnn.out.below hbq OB1nnn.out.lt)
            have OR3 := Lib.hid (OB3n.out.below hbq OB3n.out.lt)
            clear hbq x00 x01 x10 x11 x20 x21 x30 x31
            by_cases hlk : k < n
            · have g1 : (k : Int) < (n : Int) := by omega
              have hkl : k < l.length := by have := HN.out; omega
              obtain ⟨b, o, rfl, hbl, hcc⟩ := sps_at HS.out (by omega)
              have F0 := Lib.hid ((BW.out.cell hbl).trans (hcc k hkl).1)
              have F1 := Lib.hid ((BW.out.cell hbl).trans (hcc k hkl).2)
              have hmem : l.getD k sp0 ∈ l := by rw [List.getD_eq_getElem?_getD, List.getElem?_eq_getElem hkl]; exact List.getElem_mem hkl
              have HW1v := Lib.hid (HIN2.out _ hmem)
              have HW2v := Lib.hid (HIM.out _ hmem (by first | exact rfl | exact trivial))
              clear hcc hkl hmem
              generalize l.getD k sp0 = s at F0 F1 HW1v HW2v
              obtain ⟨sl, sh⟩ := s
              dsimp only at F0 F1 HW1v HW2v
              have HW1 := Lib.hid (fun w => within_any w sl sh jl jh)
              rw [HW1v.out] at HW1
              have HW2 := Lib.hid (fun w => within_any w ml mh sl sh)
              rw [HW2v.out] at HW2
              unfold spVal at HW2
              unfold spVal at HW1
              have f0 : wr.cell? ⟨b, o + k * 2, none⟩ = some (.int .u64 sl) := ((Below.refl wr.heap.size wr).cell (cell_lt F0.out)).trans F0.out
              have f1 : wr.cell? ⟨b, o + k * 2 + 1, none⟩ = some (.int .u64 sh) := ((Below.refl wr.heap.size wr).cell (cell_lt F1.out)).trans F1.out
              have f2 : wr.cell? ⟨p1, 0, none⟩ = some (.int .u64 jl) := (OR1.out.below (Below.refl wr.heap.size wr) OR1.out.lt).cell 0
              have f3 : wr.cell? ⟨p1, 1, none⟩ = some (.int .u64 jh) := (OR1.out.below (Below.refl wr.heap.size wr) OR1.out.lt).cell 1
              have f4 : wr.cell? ⟨p3, 0, none⟩ = some (.int .u64 ml) := (OR3.out.below (Below.refl wr.heap.size wr) OR3.out.lt).cell 0
              have f5 : wr.cell? ⟨p3, 1, none⟩ = some (.int .u64 mh) := (OR3.out.below (Below.refl wr.heap.size wr) OR3.out.lt).cell 1
              go_upto_region 19 with fail
              go_region_held3 (fun w' => w'.cell? ⟨b, o + k * 2, none⟩ = some (.int .u64 sl) ∧ w'.cell? ⟨b, o + k * 2 + 1, none⟩ = some (.int .u64 sh) ∧ w'.cell? ⟨p1, 0, none⟩ = some (.int .u64 jl) ∧ w'.cell? ⟨p1, 1, none⟩ = some (.int .u64 jh) ∧ w'.cell? ⟨p3, 0, none⟩ = some (.int .u64 ml) ∧ w'.cell? ⟨p3, 1, none⟩ = some (.int .u64 mh)) (go_keep)
                (first
                 | (go_at_call 16
                    have hthere := E1.out
                    clear hthere
                    refine (HW2.out y1).mono ?_
                    rintro e y2 ⟨rfl, bb⟩
                    have E2 := Lib.hid (E1.out.trans (bb.mono E1.out.size))
                    have h0 : y2.cell? ⟨b, o + k * 2, none⟩ = some (.int .u64 sl) := (E2.out.cell (cell_lt F0.out)).trans F0.out
                    have h1 : y2.cell? ⟨b, o + k * 2 + 1, none⟩ = some (.int .u64 sh) := (E2.out.cell (cell_lt F1.out)).trans F1.out
                    have h2 : y2.cell? ⟨p1, 0, none⟩ = some (.int .u64 jl) := (OR1.out.below E2.out OR1.out.lt).cell 0
                    have h3 : y2.cell? ⟨p1, 1, none⟩ = some (.int .u64 jh) := (OR1.out.below E2.out OR1.out.lt).cell 1
                    have h4 : y2.cell? ⟨p3, 0, none⟩ = some (.int .u64 ml) := (OR3.out.below E2.out OR3.out.lt).cell 0
                    have h5 : y2.cell? ⟨p3, 1, none⟩ = some (.int .u64 mh) := (OR3.out.below E2.out OR3.out.lt).cell 1
                    clear bb)
                 | (go_at_call 16
                    refine (HW1.out wr.drew).mono ?_
                    rintro e y1 ⟨rfl, bb⟩
                    have E1 : Hid (Below wr.heap.size wr y1) := Lib.hid ((below_drewN (Below.refl wr.heap.size wr) 1).trans bb)
                    have g0 : y1.cell? ⟨b, o + k * 2, none⟩ = some (.int .u64 sl) := (E1.out.cell (cell_lt F0.out)).trans F0.out
                    have g1 : y1.cell? ⟨b, o + k * 2 + 1, none⟩ = some (.int .u64 sh) := (E1.out.cell (cell_lt F1.out)).trans F1.out
                    have g2 : y1.cell? ⟨p1, 0, none⟩ = some (.int .u64 jl) := (OR1.out.below E1.out OR1.out.lt).cell 0
                    have g3 : y1.cell? ⟨p1, 1, none⟩ = some (.int .u64 jh) := (OR1.out.below E1.out OR1.out.lt).cell 1
                    have g4 : y1.cell? ⟨p3, 0, none⟩ = some (.int .u64 ml) := (OR3.out.below E1.out OR3.out.lt).cell 0
                    have g5 : y1.cell? ⟨p3, 1, none⟩ = some (.int .u64 mh) := (OR3.out.below E1.out OR3.out.lt).cell 1
                    clear bb))
              go_wp2_with fail
              go_roundw
              case rel => exact ⟨k + 1, by omega, by go_num, BQ.out.trans (E2.out.mono BQ.out.size)⟩
              case measure => simp [intOf]; omega
            · have g1 : ¬ (k : Int) < (n : Int) := by omega
              go_wp2_with fail
              go_ret
              exact ⟨rfl, BW.out⟩
    · have hjn : ((j + 1 : Nat) : Int) - 1 = (j : Int) := by omega
      rw [hjn]
      have g1 : (0 : Int) ≤ (j : Int) := by omega
      have g2 : (j : Int) < (n : Int) := by omega
      have hjl : j < l.length := by have := HN.out; omega
      obtain ⟨b, o, rfl, hbl, hcc⟩ := sps_at HS.out (by omega)
      have f0 := (BB.out.cell hbl).trans (hcc j hjl).1
      have f1 := (BB.out.cell hbl).trans (hcc j hjl).2
      have HDR := Lib.hid (drop_span l j hjl)
      clear hcc hjl
      generalize l.getD j sp0 = s at f0 f1 HDR
      obtain ⟨sl, sh⟩ := s
      dsimp only at f0 f1
      have F0 := Lib.hid f0
      have F1 := Lib.hid f1
      have HAR := Lib.hid (show allR (l.drop j) = (decide (sl ≤ sh) && allR (l.drop (j + 1))) by rw [HDR.out]; rfl)
      have HDD := Lib.hid (show sps (dd (l.drop j)) = sps (dd (l.drop (j + 1))) ++ sps [⟨sl, sh⟩, ⟨sl, sh⟩] by rw [HDR.out, dd, sps_app])
      have HRT := Lib.hid (fun w => right_any w sl sh)
      unfold spVal at HRT
      have HLEN := Lib.hid (show 2 * (n - j) = 2 * (n - (j + 1)) + 2 by omega)
      obtain ⟨m2, hm2⟩ : ∃ m, 2 * (n - (j + 1)) = m := ⟨_, rfl⟩
      rw [hm2] at R HLEN
      have hm2' : m2 ≤ 2097152 := by omega
      clear hm2
      obtain ⟨xs0, hxs⟩ : ∃ x, sps (dd (l.drop (j + 1))) = x := ⟨_, rfl⟩
      rw [hxs] at R HDD
      clear hxs
      obtain ⟨n0, hn0⟩ : ∃ x, decide ((0 : Int) < n) = x := ⟨_, rfl⟩
      obtain ⟨ar, har⟩ : ∃ x, allR (l.drop (j + 1)) = x := ⟨_, rfl⟩
      rw [hn0, har]
      rw [har] at HAR
      have HN0 := Lib.hid hn0
      clear hn0 har
      go_upto_region 8 with fail
      go_region_held3 (fun w' => w'.cell? ⟨b, o + j * 2, none⟩ = some (.int .u64 sl) ∧ w'.cell? ⟨b, o + j * 2 + 1, none⟩ = some (.int .u64 sh)) (go_keep)
        (first
         | (rw [if_pos (by rfl)]
            refine wp_append_sl _ (.tmp 27) (.tmp 36) _ rfl w.heap.size 26 i0 _ 2 16 Try.underlying22 hi0 hz0 hz1 hz2 rfl (by omega) u3 m2 xs0 rfl (World.ownsRow.alloc R.out _)
              (some ⟨_, 0, none⟩) 2 2 (sps [⟨sl, sh⟩, ⟨sl, sh⟩]) rfl rfl (Sl.fresh _ (sps [⟨sl, sh⟩, ⟨sl, sh⟩]).toArray _ (0, 0)) (sps_allone _) (by simp only [maxLen]; omega) (by omega) (below_alloc BB.out _).size (fun v2 w2 hown g1' g2' => ?_)
            have B2 : Hid (Below w.heap.size w w2) := Lib.hid (Below.grown (below_alloc (below_drewN BB.out 1) _) g1' (below_alloc BB.out _).size fun j hj => (World.ownsRow.lt R.out j hj).1)
            have R2 := Lib.hid hown
            have D2 : Hid (∀ q, q < wr.heap.size → u3.ownBlock ≠ some q → w2.heap[q]? = wr.heap[q]?) := Lib.hid fun q hq hne => (g1'.block q (by simp; omega) (fun e => hne e.symm)).trans (heap_alloc_old _ _ hq)
            have k0 : w2.cell? ⟨b, o + j * 2, none⟩ = some (.int .u64 sl) := (World.cell?_of_block (D2.out b (cell_lt F0.out) (fun e => by have := (World.ownsRow.lt R.out _ e).1; omega))).trans F0.out
            have k1 : w2.cell? ⟨b, o + j * 2 + 1, none⟩ = some (.int .u64 sh) := (World.cell?_of_block (D2.out b (cell_lt F1.out) (fun e => by have := (World.ownsRow.lt R.out _ e).1; omega))).trans F1.out
            clear hown g1' g2'))
      clear f0 f1
      cases n0
      · go_wp2_with fail
        go_roundw
        case rel => exact ⟨j, by omega, rfl, by rw [HLEN.out, HDD.out]; exact R2.out, by rfl, B2.out⟩
        case measure => simp [intOf] <;> omega
      · cases ar
        · go_wp2_with fail
          go_roundw
          case rel => exact ⟨j, by omega, rfl, by rw [HLEN.out, HDD.out]; exact R2.out, by rw [HAR.out, Bool.and_false]; rfl, B2.out⟩
          case measure => simp [intOf] <;> omega
        · go_wp2_with fail
          refine (HRT.out w2).mono ?_
          rintro e w4 ⟨rfl, b4⟩
          have R4 := Lib.hid (own_tch (S := fun _ => False) R2.out (Tch.of_below b4) fun _ _ => id)
          have B4 := Lib.hid (B2.out.trans (b4.mono B2.out.size))
          clear b4 k0 k1
          go_wp2_with fail
          go_roundw
          case rel => exact ⟨j, by omega, rfl, by rw [HLEN.out, HDD.out]; exact R4.out, by rw [HAR.out, Bool.and_true]; rfl, B4.out⟩
          case measure => simp [intOf] <;> omega

theorem open_len {H : Type} {enc : TypeId × Value → H} {P : Program} {w : World} {base : Nat} {spare : Nat → Bool} {held : Bool} {t e : TypeId} {fuel : Nat} {v : Value} {x : DataW H × List MemPlace} (ht : P.underlying t = some (.slice e))
    (h : DataW.trod enc P w base spare held fuel t [v] = some x) : ∃ A n c, v = .slice A n c ∧ DLen x.1 n := by
  rcases Go.Deep.open_slice ht h with ⟨h0, hx0⟩ | ⟨a, len, cap, m, n, D, Pl, hcs, hb, hl, hm, hmm, hx, hi⟩
  · obtain rfl : v = .slice none 0 0 := by simpa using h0
    exact ⟨none, 0, 0, rfl, .inl ⟨by rw [hx0], rfl⟩⟩
  · obtain rfl : v = .slice (some a) len cap := by simpa using hcs
    exact ⟨some a, len, cap, rfl, .inr ⟨_, _, by rw [hx], by simp⟩⟩
def RdSpansB (N : Nat) (w : World) (v : Value) (l : List {a : SpanV // Good a}) : Prop := RdRow (fun a => spc a.1) 16 w v l ∧ l.length ≤ N
theorem open_spansb {H : Type} {enc : TypeId × Value → H} {w : World} {base : Nat} {spare : Nat → Bool} {held : Bool} {fuel : Nat} {v : Value} {x : DataW H × List MemPlace}
    (h : DataW.trod enc Try.prog w base spare held fuel 22 [v] = some x) (hsz : ∀ y ∈ DataW.weights Try.prog 22 x.1, y ≤ reachBytes) : ∃ l, RdSpansB (Rows.uptoBulk x.1) w v l := by
  obtain ⟨l, hl⟩ := open_spans h hsz
  refine ⟨l, hl, ?_⟩
  obtain ⟨A, n, c, hv, hd⟩ := open_len Try.underlying22 h
  obtain ⟨A', c', hv', _⟩ := hl
  rw [hv'] at hv
  injection hv with _ h2 _
  rw [h2]
  exact hd.bulk
theorem order_law (w : World) (l : List {a : SpanV // Good a}) (v : Value) {N : Nat} (hr : RdSpansB N w v l) (hk : N ≤ 1048576) :
    Calls Try.prog 5 #[v] w fun e w' => e = .returned (.bool true) ∧ Below w.heap.size w w' := by
  obtain ⟨⟨A, c, rfl, hc, hm, hs⟩, hN⟩ := hr
  rw [unsub] at hs
  exact order_walk w (l.map (·.1)) A l.length c (by simp) (by omega) hs

end Go.Proofs.Ytchlokhmcadgaaa
