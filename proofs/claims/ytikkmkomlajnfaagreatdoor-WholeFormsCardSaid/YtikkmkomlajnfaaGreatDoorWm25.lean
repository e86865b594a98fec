/-
  A run of a code that the judge lets through: each step is right, and it comes to an end within its cost. Plain.
  Layer 11: a machine at its beginning. Conditions: those of each theorem.
  What a machine's trace is, of a module that is judged good. Plain.
-/
import Derived.Test.YtikkmkomlajnfaaGreatDoorWm24
import Derived.Test.YtikkmkomlajnfaaGreatDoorWm11
import Derived.Test.YtikkmkomlajnfaaGreatDoorWm01
import Derived.Test.YtikkmkomlajnfaaGreatDoorWm23
set_option linter.unusedVariables false
set_option linter.unusedSimpArgs false
section
namespace Go.Proofs.YtikkmkomlajnfaaGreatDoor.Lw
open Go.RowKit
open Go.Proofs.YtikkmkomlajnfaaGreatDoor.Jd (JT j0 jnT fitsV numT updT oneV wayT wayK wayTo allFit resT callArgs tyT)
open Go.Proofs.YtikkmkomlajnfaaGreatDoor.En (ofI StV updI srcU okI okC runS runD stepS stepA callS ansS valU ResOk)
open Go.Proofs.YtikkmkomlajnfaaGreatDoor.Op (InstV ins0 LoopV lp0 loopsV rightV right_is RightI CheckI)
open Go.Proofs.YtikkmkomlajnfaaGreatDoor.Sg (ResV vlOf)

/-- what is so all along a run -/
structure Inv (nm : Nat) (l : List InstV) (T : Nat → Nat → JT) (M : Nat → Bool) (S : StV) : Prop where
 pc : S.pc < l.length
 m : M S.pc = true
 r : RegsV nm (T S.pc) S.regs
 t : ∀ q, 0 ≤ S.turns q
 hd : ∀ x ∈ lpsN l, x.has S.pc → M x.h = true
/-- how many steps are left, at most -/
def pot (l : List InstV) (S : StV) : Nat := csum (cvis (lpsN l) S.pc (fun q => (S.turns q).toNat)) l.length
theorem pot_cost {l : List InstV} (h : CheckI l) (S : StV) : (pot l S : Int) ≤ Op.costV l := by
 rw [cost_sum h]
 have := csum_le (f := cvis (lpsN l) S.pc (fun q => (S.turns q).toNat)) (g := ctimes (lpsN l)) l.length fun q _ => cvis_le _ _ _ _
 unfold pot
 omega
theorem pot_pos {nm : Nat} {l : List InstV} {T : Nat → Nat → JT} {M : Nat → Bool} {S : StV} (h : Inv nm l T M S) : 1 ≤ pot l S := csum_pos (cvis_pos _ _ _) _ h.pc
theorem inv_fwd {nm : Nat} {l : List InstV} {T : Nat → Nat → JT} {M : Nat → Bool} {S S' : StV} (hc : CheckI l) (h : Inv nm l T M S) (hn : S'.pc < l.length)
 (hw : S'.pc = S.pc + 1 ∨ (15 ≤ (l.getD S.pc ins0).op ∧ (l.getD S.pc ins0).op ≤ 19 ∧ S'.pc = S.pc + (l.getD S.pc ins0).d.toNat + 1)) (hm : M S'.pc = true ∧ RegsV nm (T S'.pc) S'.regs) (ht : ∀ q, 0 ≤ S'.turns q)
 (hT : ∀ x ∈ lpsN l, x.has S'.pc → S'.turns x.a = S.turns x.a) : Inv nm l T M S' ∧ pot l S' + 1 ≤ pot l S := by
 have hent := lps_enter hc h.pc hw
 refine ⟨⟨hn, hm.1, hm.2, ht, fun x hx hh => ?_⟩, ?_⟩
 · by_cases c : x.has S.pc
   · exact h.hd x hx c
   rw [← hent x hx c hh]; exact hm.1
 exact csum_lt _ (fun q _ => cvis_fwd (by omega) hent (fun x hx hh => by rw [hT x hx hh]) q) h.pc
theorem inv_back {nm : Nat} {l : List InstV} {T : Nat → Nat → JT} {M : Nat → Bool} {S S' : StV} (hc : CheckI l) (h : Inv nm l T M S) (hop : (l.getD S.pc ins0).op = 20) (hlt : S.turns S.pc < (l.getD S.pc ins0).m)
 (hp : S'.pc = S.pc - (l.getD S.pc ins0).d.toNat) (hr : RegsV nm (T S'.pc) S'.regs) (ht : S'.turns = updI S.turns S.pc (S.turns S.pc + 1)) : Inv nm l T M S' ∧ pot l S' + 1 ≤ pot l S := by
 obtain ⟨l1, l2, hl, ha1, ha2⟩ := lps_split hc h.pc hop
 have hpl := Jd.place_of hc h.pc
 have hd := hpl.2.2.1 hop
 have hri := (right_is hpl.2.2.2).l hop
 have hh := h.hd ⟨S.pc - (l.getD S.pc ins0).d.toNat, S.pc, (l.getD S.pc ins0).m.toNat⟩ (by rw [hl]; simp) (by unfold LpN.has; dsimp only; omega)
 have hnest := lps_nest hc
 rw [hl] at hnest
 have hn1 := (List.pairwise_append.1 hnest).2.2
 have hn2 := (List.pairwise_cons.1 (List.pairwise_append.1 hnest).2.1).1
 have ht0 := h.t S.pc
 refine ⟨⟨by have := h.pc; omega, by rw [hp]; exact hh, hr, fun q => ?_, fun x hx hhx => ?_⟩, ?_⟩
 · rw [ht]
   unfold updI
   have := h.t q
   split <;> omega
 · by_cases c : x.has S.pc
   · exact h.hd x hx c
   rw [hl] at hx
   rw [hp] at hhx
   rcases List.mem_append.1 hx with hx | hx
   · have e := hn1 x hx _ List.mem_cons_self
     unfold Nst at e
     unfold LpN.has at hhx
     dsimp only at e
     rw [show x.h = S.pc - (l.getD S.pc ins0).d.toNat by omega]; exact hh
   rcases List.mem_cons.1 hx with rfl | hx
   · exact hh
   exfalso
   have e := hn2 x hx
   have e2 := ha2 x hx
   unfold LpN.has at hhx c
   omega
 unfold pot
 rw [hp, hl]
 refine csum_lt _ (fun q _ => cvis_back (l := ⟨S.pc - (l.getD S.pc ins0).d.toNat, S.pc, (l.getD S.pc ins0).m.toNat⟩) (T := fun q => (S.turns q).toNat) (T' := fun q => (S'.turns q).toNat) (by dsimp only; omega) (by dsimp only; omega) ha1 (fun m hm => hn1 m hm _ List.mem_cons_self) ha2 (fun m hm => hn2 m hm) ?_ (fun m hm => ?_) q) h.pc
 · dsimp only
   rw [ht]
   unfold updI
   rw [if_pos rfl]
   omega
 have := ha2 m hm
 rw [ht]
 unfold updI
 rw [if_neg (by omega)]

/-- what a call wants is there -/
theorem ckL_cons {t a : Sg.TypeV} {W L : List Sg.TypeV} (h : Sg.ckL (t :: W) (a :: L) = 0) : a.kind = t.kind ∧ (t.kind = 1 → Sg.withinB a.lo a.hi t.lo t.hi = true) := by
 rw [Sg.ckL] at h
 by_cases c : a.kind ≠ t.kind
 · rw [if_pos c] at h; exact absurd h (by decide)
 rw [if_neg c] at h
 refine ⟨by simpa using c, fun k => ?_⟩
 by_cases c2 : t.kind = 1 ∧ Sg.withinB a.lo a.hi t.lo t.hi = false
 · rw [if_pos c2] at h; exact absurd h (by decide)
 cases hb : Sg.withinB a.lo a.hi t.lo t.hi with
 | true => rfl
 | false => exact absurd ⟨k, hb⟩ c2
theorem call_ok {K : Nat → JT} {S : StV} {ms : List Int} {h : Int} (h4 : ms.length ≤ 4) (h0 : 0 ≤ h ∧ h ≤ 6) (hr : RegsV ms.length K S.regs) (hk : Sg.ckOf h ((callArgs K h).map tyT) = 0) : okC ms h S := by
 have hr1 := hr 1 (by omega)
 have y : h = ((0 : Nat) : Int) ∨ h = ((1 : Nat) : Int) ∨ h = ((2 : Nat) : Int) ∨ h = ((3 : Nat) : Int) ∨ h = ((4 : Nat) : Int) ∨ h = ((5 : Nat) : Int) ∨ h = ((6 : Nat) : Int) := by omega
 have two : (K 1).k = 2 → (S.regs 1).toNat < ms.length := fun e => by
  have := hr1.2 e
  rw [this.2.2]
  unfold ofI
  rw [BitVec.toNat_ofInt]
  omega
 refine ⟨fun h5 => two ?_, fun h5 => ?_⟩
 · rcases y with rfl | rfl | rfl | rfl | rfl | rfl | rfl
   case inr.inr.inr.inr.inr.inl => omega
   case inr.inr.inr.inr.inr.inr => omega
   all_goals
    unfold Sg.ckOf callArgs at hk
    rw [Sg.hI_nat (by omega)] at hk
    first | rw [Sg.argsL_0] at hk | rw [Sg.argsL_1] at hk | rw [Sg.argsL_2] at hk | rw [Sg.argsL_3] at hk | rw [Sg.argsL_4] at hk
    rw [if_pos (by omega), if_pos (by rfl)] at hk
    exact (ckL_cons hk).1
 subst h5
 unfold Sg.ckOf callArgs at hk
 rw [show (5 : Int) = ((5 : Nat) : Int) from rfl, Sg.hI_nat (by omega), Sg.argsL_5, if_pos (by omega), if_pos (by rfl)] at hk
 have a := ckL_cons hk
 have b := a.2 rfl
 have c := hr1.1 a.1
 unfold Sg.withinB tyT uv at b
 simp at b
 omega
theorem ty_full {nm : Nat} {y : Nat} (hy : y = 0 ∨ y = 4 ∨ y = 5) (x : BitVec 64) : TyV nm (resT y) x := by
 have := x.isLt
 rcases hy with rfl | rfl | rfl <;> exact ty_num (Nat.zero_le _) (by show x.toNat ≤ 18446744073709551615; omega)
theorem ty_ans {nm : Nat} {h : Int} {r : ResV} (h0 : 0 ≤ h ∧ h < 5) : TyV nm (resT (Sg.hI h)) (valU h r) := by
 have y : h = ((0 : Nat) : Int) ∨ h = ((1 : Nat) : Int) ∨ h = ((2 : Nat) : Int) ∨ h = ((3 : Nat) : Int) ∨ h = ((4 : Nat) : Int) := by omega
 unfold valU
 rcases y with rfl | rfl | rfl | rfl | rfl
 · rw [Sg.hI_nat (by omega)]; exact ty_full (.inl rfl) _
 · rw [Sg.hI_nat (by omega)]
   refine ty_num (Nat.zero_le _) ?_
   unfold vlOf
   rw [if_neg (by omega)]
   split <;> decide
 · rw [Sg.hI_nat (by omega)]
   refine ty_num (Nat.zero_le _) ?_
   unfold vlOf
   rw [if_neg (by omega)]
   split <;> decide
 · rw [Sg.hI_nat (by omega)]
   refine ty_num (Nat.zero_le _) ?_
   unfold vlOf
   rw [if_neg (by omega)]
   split <;> decide
 rw [Sg.hI_nat (by omega)]; exact ty_full (.inr (.inl rfl)) _
theorem one_call {i : InstV} {K H : Nat → JT} {nm : Nat} (h : i.op = 21) : oneV i K H nm = (updT K 0 (resT (Sg.hI i.m)), Sg.ckOf i.m ((callArgs K i.m).map tyT)) := by
 unfold oneV
 rw [if_neg (by omega), if_neg (by omega), if_neg (by omega), if_neg (by omega), if_neg (by omega), if_neg (by omega), if_neg (by omega), if_neg (by omega), if_neg (by omega), if_neg (by omega), if_neg (by omega), if_pos h]
theorem one_loop {i : InstV} {K H : Nat → JT} {nm : Nat} (h : i.op = 20) : oneV i K H nm = (K, if Jd.numsV [K i.a.toNat] = 0 then (if allFit K H = true then 0 else 33) else Jd.numsV [K i.a.toNat]) := by
 unfold oneV
 rw [if_neg (by omega), if_neg (by omega), if_neg (by omega), if_neg (by omega), if_neg (by omega), if_neg (by omega), if_neg (by omega), if_neg (by omega), if_neg (by omega), if_neg (by omega), if_pos h]
theorem one_jump {i : InstV} {K H : Nat → JT} {nm : Nat} (h : i.op = 15) : oneV i K H nm = (K, 0) := by
 unfold oneV
 rw [if_neg (by omega), if_neg (by omega), if_neg (by omega), if_neg (by omega), if_neg (by omega), if_pos h]
theorem one_way {i : InstV} {K H : Nat → JT} {nm : Nat} (h : 16 ≤ i.op ∧ i.op ≤ 19) : oneV i K H nm = (K, Jd.numsV [K i.a.toNat, Jd.srcV i K]) := by
 unfold oneV
 rw [if_neg (by omega), if_neg (by omega), if_neg (by omega), if_neg (by omega), if_neg (by omega), if_neg (by omega)]
 by_cases c1 : i.op = 16
 · rw [if_pos c1]
 rw [if_neg c1]
 by_cases c2 : i.op = 17
 · rw [if_pos c2]
 rw [if_neg c2]
 by_cases c3 : i.op = 18
 · rw [if_pos c3]
 rw [if_neg c3, if_pos (show i.op = 19 by omega)]
theorem allfit_acc {nm : Nat} {K H : Nat → JT} (h : allFit K H = true) : Acc nm K H := by
 intro f hf r hr
 unfold allFit at h
 exact fits_ty (List.all_eq_true.1 h r (List.mem_range.2 hr)) (hf r hr)

theorem run_turns {ea eb : BitVec 64} {i : InstV} {S : StV} (h : i.op ≠ 20) : (runS ea eb i S).turns = S.turns := by
 unfold runS
 rw [if_neg h]
 repeat' split
 all_goals rfl
theorem run_regs {ea eb : BitVec 64} {i : InstV} {S : StV} (h : 15 ≤ i.op) : (runS ea eb i S).regs = S.regs := by
 unfold runS
 rw [if_neg (by omega), if_neg (by omega), if_neg (by omega), if_neg (by omega), if_neg (by omega)]
 by_cases c : i.op = 15
 · rw [if_pos c]
 rw [if_neg c]
 have : ¬ AM.doOk i.op = true := fun e => by have := of_decide_eq_true e; omega
 rw [if_neg this]
 split
 · split <;> rfl
 rfl
theorem runD_low {i : InstV} {S : StV} (h : i.op ≤ 14) (h0 : 0 ≤ i.op) : runD i S = 1 := by
 unfold runD
 rw [if_neg (by omega), if_neg (by omega)]
 split
 · rfl
 rw [if_neg]
 intro e
 unfold AM.hdV at e
 rw [if_neg (by omega), if_neg (by omega), if_neg (by omega), if_neg (by omega)] at e
 cases e
theorem runD_way {i : InstV} {S : StV} (h : 16 ≤ i.op ∧ i.op ≤ 19) : runD i S = if AM.hdV i.op (S.regs i.a.toNat) (srcU i S.regs) = true then i.d + 1 else 1 := by
 unfold runD
 rw [if_neg (by omega), if_neg (by omega), if_neg (fun e => by have := of_decide_eq_true e; omega)]

/-- a step of what the judge lets through -/
theorem step_ok {ms : List Int} {l : List InstV} {T : Nat → Nat → JT} {M : Nat → Bool} {S : StV} (h4 : ms.length ≤ 4) (hc : CheckI l) (ht : TypedV ms.length l T M) (h : Inv ms.length l T M S) :
 rightV (l.getD S.pc ins0) = true ∧ okI (l.getD S.pc ins0) S ∧ ((l.getD S.pc ins0).op = 21 → okC ms (l.getD S.pc ins0).m S) ∧
  ((l.getD S.pc ins0).op ≠ 21 → (l.getD S.pc ins0).op ≠ 22 → 0 ≤ (S.pc : Int) + runD (l.getD S.pc ins0) S) := by
 have hpl := Jd.place_of hc h.pc
 have hat := ht.at_ S.pc h.pc h.m
 have hri := right_is hpl.2.2.2
 refine ⟨hpl.2.2.2, one_ok hri.b h.r hat.ok, fun e => ?_, fun e1 e2 => ?_⟩
 · have := hat.ok
   rw [one_call e] at this
   exact call_ok h4 (hri.c e) h.r this
 have hd := hri.d0
 have hg := hpl.2.2.1
 generalize l.getD S.pc ins0 = i at hd hg ⊢
 unfold runD
 repeat' split
 · omega
 · have := hg (by assumption); omega
 all_goals omega
theorem step_keeps {ms : List Int} {l : List InstV} {T : Nat → Nat → JT} {M : Nat → Bool} {S : StV} {ea eb : BitVec 64} (hc : CheckI l) (ht : TypedV ms.length l T M) (h : Inv ms.length l T M S) (h22 : (l.getD S.pc ins0).op ≠ 22) (h21 : (l.getD S.pc ins0).op ≠ 21) :
 Inv ms.length l T M (stepS ea eb (l.getD S.pc ins0) S) ∧ pot l (stepS ea eb (l.getD S.pc ins0) S) + 1 ≤ pot l S := by
 have hpl := Jd.place_of hc h.pc
 have hat := ht.at_ S.pc h.pc h.m
 have hri := right_is hpl.2.2.2
 have hd0 := hri.d0
 have ho0 := hri.o0
 have ho1 := hri.o1
 have es : stepS ea eb (l.getD S.pc ins0) S = { runS ea eb (l.getD S.pc ins0) { S with steps := S.steps + 1 } with pc := (S.pc + runD (l.getD S.pc ins0) S).toNat } := by
  unfold stepS
  rw [if_neg h21, if_neg h22]
 have hr1 : RegsV ms.length (T S.pc) ({ S with steps := S.steps + 1 } : StV).regs := h.r
 by_cases c14 : (l.getD S.pc ins0).op ≤ 14
 · have hk := one_keeps (ea := ea) (eb := eb) hri hr1 hat.ok c14
   have hto := hat.lead.on h22 (by omega) (by omega)
   have hn := hpl.2.1 h22 (by omega)
   have e1 := runD_low (S := S) c14 ho0
   have epc : (stepS ea eb (l.getD S.pc ins0) S).pc = S.pc + 1 := by rw [es, e1]; dsimp only; omega
   have etu : (stepS ea eb (l.getD S.pc ins0) S).turns = S.turns := by rw [es]; exact run_turns (by omega)
   have ere : (stepS ea eb (l.getD S.pc ins0) S).regs = (runS ea eb (l.getD S.pc ins0) { S with steps := S.steps + 1 }).regs := by rw [es]
   exact inv_fwd hc h (by rw [epc]; exact hn) (.inl epc) (by rw [epc, ere]; exact ⟨hto.1, hto.2 _ hk⟩) (by rw [etu]; exact h.t) (by rw [etu]; exact fun _ _ _ => rfl)
 by_cases c15 : (l.getD S.pc ins0).op = 15
 · have hto := hat.lead.jump c15
   rw [one_jump c15] at hto
   have hn := hpl.1 (by omega) (by omega)
   have e1 : runD (l.getD S.pc ins0) S = (l.getD S.pc ins0).d + 1 := by unfold runD; rw [if_pos c15]
   have epc : (stepS ea eb (l.getD S.pc ins0) S).pc = S.pc + (l.getD S.pc ins0).d.toNat + 1 := by rw [es, e1]; dsimp only; omega
   have etu : (stepS ea eb (l.getD S.pc ins0) S).turns = S.turns := by rw [es]; exact run_turns (by omega)
   have ere : (stepS ea eb (l.getD S.pc ins0) S).regs = S.regs := by rw [es]; exact run_regs (by omega)
   exact inv_fwd hc h (by rw [epc]; exact hn) (.inr ⟨by omega, by omega, epc⟩) (by rw [epc, ere]; exact ⟨hto.1, hto.2 _ h.r⟩) (by rw [etu]; exact h.t) (by rw [etu]; exact fun _ _ _ => rfl)
 by_cases c16 : 16 ≤ (l.getD S.pc ins0).op ∧ (l.getD S.pc ins0).op ≤ 19
 · have hok := hat.ok
   rw [one_way c16] at hok
   have hwk := way_keeps hri h.r hok c16
   have e1 := runD_way (S := S) c16
   have etu : (stepS ea eb (l.getD S.pc ins0) S).turns = S.turns := by rw [es]; exact run_turns (by omega)
   have ere : (stepS ea eb (l.getD S.pc ins0) S).regs = S.regs := by rw [es]; exact run_regs (by omega)
   have hlead := hat.lead.way c16.1 c16.2
   rw [one_way c16] at hlead
   have hto := hlead _ hwk.1
   have hn := hpl.1 (by omega) (by omega)
   have hn2 := hpl.2.1 h22 (by omega)
   generalize AM.hdV (l.getD S.pc ins0).op (S.regs (l.getD S.pc ins0).a.toNat) (srcU (l.getD S.pc ins0) S.regs) = hb at hwk e1 hto
   have epc : (stepS ea eb (l.getD S.pc ins0) S).pc = wayTo (l.getD S.pc ins0) S.pc hb := by
    rw [es, e1]
    dsimp only
    unfold wayTo
    split <;> omega
   have ew : wayTo (l.getD S.pc ins0) S.pc hb = S.pc + 1 ∨ wayTo (l.getD S.pc ins0) S.pc hb = S.pc + (l.getD S.pc ins0).d.toNat + 1 := by
    unfold wayTo
    split
    · exact .inr rfl
    exact .inl rfl
   exact inv_fwd hc h (by rw [epc]; omega) (by rw [epc]; rcases ew with e | e; exact .inl e; exact .inr ⟨by omega, by omega, e⟩) (by rw [epc, ere]; exact ⟨hto.1, hto.2 _ hwk.2⟩) (by rw [etu]; exact h.t) (by rw [etu]; exact fun _ _ _ => rfl)
 have c20 : (l.getD S.pc ins0).op = 20 := by omega
 have hok := hat.ok
 rw [one_loop c20] at hok
 have hto := hat.lead.on h22 (by omega) (by omega)
 rw [one_loop c20] at hto
 dsimp only at hok hto
 have hn := hpl.2.1 h22 (by omega)
 have hdp := hpl.2.2.1 c20
 have ere : (stepS ea eb (l.getD S.pc ins0) S).regs = S.regs := by rw [es]; exact run_regs (by omega)
 have etu : (stepS ea eb (l.getD S.pc ins0) S).turns = if S.regs (l.getD S.pc ins0).a.toNat ≠ 0#64 ∧ S.turns S.pc < (l.getD S.pc ins0).m then updI S.turns S.pc (S.turns S.pc + 1) else updI S.turns S.pc 0 := by
  rw [es]
  dsimp only
  unfold runS
  rw [if_neg (by omega), if_neg (by omega), if_neg (by omega), if_neg (by omega), if_neg (by omega), if_neg (by omega), if_pos c20]
  dsimp only
  split <;> rfl
 have e1 : runD (l.getD S.pc ins0) S = if S.regs (l.getD S.pc ins0).a.toNat ≠ 0#64 ∧ S.turns S.pc < (l.getD S.pc ins0).m then -(l.getD S.pc ins0).d else 1 := by
  unfold runD
  rw [if_neg (by omega), if_pos c20]
 have hfit : allFit (T S.pc) (T (S.pc - (l.getD S.pc ins0).d.toNat)) = true := by
  by_cases c : Jd.numsV [T S.pc (l.getD S.pc ins0).a.toNat] = 0
  · rw [if_pos c] at hok
    by_cases c2 : allFit (T S.pc) (T (S.pc - (l.getD S.pc ins0).d.toNat)) = true
    · exact c2
    rw [if_neg c2] at hok; exact absurd hok (by decide)
  rw [if_neg c] at hok; exact absurd hok c
 by_cases ct : S.regs (l.getD S.pc ins0).a.toNat ≠ 0#64 ∧ S.turns S.pc < (l.getD S.pc ins0).m
 · rw [if_pos ct] at etu e1
   have epc : (stepS ea eb (l.getD S.pc ins0) S).pc = S.pc - (l.getD S.pc ins0).d.toNat := by rw [es, e1]; dsimp only; omega
   exact inv_back hc h c20 ct.2 epc (by rw [epc, ere]; exact allfit_acc hfit _ h.r) etu
 rw [if_neg ct] at etu e1
 have epc : (stepS ea eb (l.getD S.pc ins0) S).pc = S.pc + 1 := by rw [es, e1]; dsimp only; omega
 refine inv_fwd hc h (by rw [epc]; exact hn) (.inl epc) (by rw [epc, ere]; exact ⟨hto.1, hto.2 _ h.r⟩) (fun q => ?_) (fun x hx hh => ?_)
 · rw [etu]
   unfold updI
   have := h.t q
   split <;> omega
 rw [etu]
 rw [epc] at hh
 unfold updI LpN.has at *
 rw [if_neg (by omega)]
/-- a call that the machine answers by itself -/
theorem call_keeps {ms : List Int} {l : List InstV} {T : Nat → Nat → JT} {M : Nat → Bool} {S : StV} {ea eb : BitVec 64} (hc : CheckI l) (ht : TypedV ms.length l T M) (h : Inv ms.length l T M S) (h21 : (l.getD S.pc ins0).op = 21) (h5 : ¬ (l.getD S.pc ins0).m < 5) :
 Inv ms.length l T M (stepS ea eb (l.getD S.pc ins0) S) ∧ pot l (stepS ea eb (l.getD S.pc ins0) S) + 1 ≤ pot l S := by
 have hpl := Jd.place_of hc h.pc
 have hat := ht.at_ S.pc h.pc h.m
 have hri := right_is hpl.2.2.2
 have hm := hri.c h21
 have hto := hat.lead.on (by omega) (by omega) (by omega)
 rw [one_call h21] at hto
 dsimp only at hto
 have hn := hpl.2.1 (by omega) (by omega)
 have es : stepS ea eb (l.getD S.pc ins0) S = callS (l.getD S.pc ins0).m { S with steps := S.steps + 1 } := by unfold stepS; rw [if_pos h21]
 by_cases e5 : (l.getD S.pc ins0).m = 5
 · have hs : Sg.hI (l.getD S.pc ins0).m = 5 := by rw [e5]; rfl
   rw [hs] at hto
   have es2 : stepS ea eb (l.getD S.pc ins0) S = { S with steps := S.steps + 1, counts := upd S.counts (S.regs 1).toNat (S.counts (S.regs 1).toNat + 1#64), regs := upd S.regs 0 (S.counts (S.regs 1).toNat + 1#64), pc := S.pc + 1 } := by
    rw [es]; unfold callS; rw [if_neg h5, if_pos e5]
   rw [es2]
   exact inv_fwd hc h hn (.inl rfl) ⟨hto.1, hto.2 _ (regs_set h.r 0 (ty_full (.inr (.inr rfl)) _))⟩ h.t fun _ _ _ => rfl
 have hs : Sg.hI (l.getD S.pc ins0).m = 6 := by rw [show (l.getD S.pc ins0).m = 6 by omega]; rfl
 rw [hs] at hto
 have es2 : stepS ea eb (l.getD S.pc ins0) S = { S with steps := S.steps + 1, regs := upd S.regs 0 0#64, pc := S.pc + 1 } := by
  rw [es]; unfold callS; rw [if_neg h5, if_neg e5]
 rw [es2]
 exact inv_fwd hc h hn (.inl rfl) ⟨hto.1, hto.2 _ (regs_set h.r 0 (ty_num (Nat.le_refl _) (Nat.zero_le _)))⟩ h.t fun _ _ _ => rfl
/-- a call that is answered -/
theorem ans_keeps {ms : List Int} {l : List InstV} {T : Nat → Nat → JT} {M : Nat → Bool} {S : StV} {ea eb : BitVec 64} {r : ResV} (hc : CheckI l) (ht : TypedV ms.length l T M) (h : Inv ms.length l T M S) (h21 : (l.getD S.pc ins0).op = 21) (h5 : (l.getD S.pc ins0).m < 5) :
 Inv ms.length l T M (ansS (l.getD S.pc ins0) r (stepS ea eb (l.getD S.pc ins0) S)) ∧ pot l (ansS (l.getD S.pc ins0) r (stepS ea eb (l.getD S.pc ins0) S)) + 1 ≤ pot l S := by
 have hpl := Jd.place_of hc h.pc
 have hat := ht.at_ S.pc h.pc h.m
 have hri := right_is hpl.2.2.2
 have hm := hri.c h21
 have hto := hat.lead.on (by omega) (by omega) (by omega)
 rw [one_call h21] at hto
 dsimp only at hto
 have hn := hpl.2.1 (by omega) (by omega)
 have es2 : ansS (l.getD S.pc ins0) r (stepS ea eb (l.getD S.pc ins0) S) = { S with steps := S.steps + 1, regs := upd S.regs 0 (valU (l.getD S.pc ins0).m r), pc := S.pc + 1, st := 0 } := by
  unfold stepS ansS callS
  rw [if_pos h21, if_pos h5]
 rw [es2]
 exact inv_fwd hc h hn (.inl rfl) ⟨hto.1, hto.2 _ (regs_set h.r 0 (ty_ans ⟨by omega, h5⟩))⟩ h.t fun _ _ _ => rfl
/-- at the beginning -/
theorem inv_zero {ms : List Int} {l : List InstV} {T : Nat → Nat → JT} {M : Nat → Bool} {S : StV} (hc : CheckI l) (ht : TypedV ms.length l T M) (hp : S.pc = 0) (hts : ∀ q, S.turns q = 0) : Inv ms.length l T M S := by
 refine ⟨by rw [hp]; exact hc.n0, by rw [hp]; exact ht.z, by rw [hp]; exact ht.t0 _, fun q => by rw [hts]; exact Int.le_refl _, fun x hx hh => ?_⟩
 obtain ⟨y, hy, rfl⟩ := List.mem_map.1 hx
 rw [hp] at hh
 unfold LpN.has at hh
 rw [show (lpn y).h = 0 by omega]
 exact ht.z
end Go.Proofs.YtikkmkomlajnfaaGreatDoor.Lw
end

section
namespace Go.Proofs.YtikkmkomlajnfaaGreatDoor.En
set_option maxRecDepth 100000
set_option maxHeartbeats 16000000
open Go.RowKit
open Go.Proofs.YtikkmkomlajnfaaGreatDoor.Op (InstV insc insVal inss ins0 ins_at inss_length inss_allone rightV right_is RightI Frm goesV writesV sourceV)
open Go.Proofs.YtikkmkomlajnfaaGreatDoor.Jd (judV)

/-- a machine at its beginning, over a scratch -/
def st0 (ks : Nat → BitVec 64) : StV := ⟨Sc.zz, Sc.zz, ks, fun _ => 0, 0, 0, 0⟩
theorem mc_zero (ea eb : BitVec 64) (mV cV sV : Value) (ks : Nat → BitVec 64) : ((((Tryz.zeroCells153.setIfInBounds 0 (.int .u64 (uv ea))).setIfInBounds 1 (.int .u64 (uv eb))).setIfInBounds 2 mV).setIfInBounds 3 cV).setIfInBounds 4 sV = (rg 80 (mcell ea eb mV cV sV (st0 ks))).toArray := by kernel_rfl
theorem ints_one (ms : List Int) : ∀ u ∈ ints ms, u.oneCell' = true := by
 intro u hu
 simp only [ints, List.mem_map] at hu
 obtain ⟨x, _, rfl⟩ := hu
 rfl
theorem newbad_any (w : World) (gs : Nat) (ea eb : BitVec 64) (l : List InstV) (ms : List Int) (mA cA : Option Addr) (nm cm n c : Nat) (hn : n = l.length) (hnc : n ≤ c) (hnm : nm = ms.length) (hmc : nm ≤ cm) (hmm : nm ≤ 140737488351232)
 (hf : Frm w) (ht : Sg.Tab w) (hs : Sl w cA (inss l)) (hm : Sl w mA (ints ms)) (hj : (judV ms l).2 ≠ 0) :
 Calls Tryz.prog 30 #[.agg #[.slice mA nm cm, .slice cA n c], .agg #[.int .u64 (uv ea), .int .u64 (uv eb)], .pointer (some ⟨gs, 0, none⟩)] w fun e w' => e = .returned (.tuple #[.pointer none, .int .i64 (judV ms l).2]) ∧ Below w.heap.size w w' := by
 have HJ := Lib.hid (fun w hf ht hs hm => Jd.Judge_any w l ms mA cA nm cm n c hn hnc hnm hmc hmm hf ht hs hm)
 obtain ⟨⟨p, e0⟩, hV⟩ : ∃ V, judV ms l = V := ⟨_, rfl⟩
 rw [hV] at HJ hj ⊢
 dsimp only at HJ hj ⊢
 have hji : (e0 != 0) = true := by simpa using hj
 have HF := Lib.hid hf
 have HT := Lib.hid ht
 have HS := Lib.hid hs
 have HM := Lib.hid hm
 have B0 := Lib.hid (Below.refl w.heap.size w)
 clear hn hnc hnm hmc hmm hf ht hs hm hV hj
 go_enter Tryz.func30, Tryz.ntmps30
 go_upto_region 1 with fail
 have O3 := Lib.hid (Ob.alloc (Ob.fresh w 25 [.slice mA nm cm, .slice cA n c]) (.cells #[.int .u64 (uv ea), .int .u64 (uv eb)] 28))
 have O4 := Lib.hid (Ob.fresh (w.alloc (.cells #[.slice mA nm cm, .slice cA n c] 25)) 28 [.int .u64 (uv ea), .int .u64 (uv eb)])
 rw [show (w.alloc (.cells #[.slice mA nm cm, .slice cA n c] 25)).heap.size = w.heap.size + 1 by simp] at O4
 have B1 := Lib.hid (below_alloc (below_alloc (B0.out) (.cells #[.slice mA nm cm, .slice cA n c] 25)) (.cells #[.int .u64 (uv ea), .int .u64 (uv eb)] 28))
 have Hq3 := Lib.hid (show w.heap.size ≤ w.heap.size by have := B0.out.size; omega)
 have Hq4 := Lib.hid (show w.heap.size ≤ w.heap.size + 1 by have := B0.out.size; omega)
 clear B0
 generalize ((w.alloc (.cells #[.slice mA nm cm, .slice cA n c] 25)).alloc (.cells #[.int .u64 (uv ea), .int .u64 (uv eb)] 28)) = w1 at O3 O4 B1 ⊢
 obtain ⟨q4, hq4⟩ : ∃ q4, w.heap.size + 1 = q4 := ⟨_, rfl⟩
 rw [hq4] at O4 Hq4 ⊢
 clear hq4
 obtain ⟨q3, hq3⟩ : ∃ q3, w.heap.size = q3 := ⟨_, rfl⟩
 have Hq3 := Lib.hid (Nat.le_of_eq hq3)
 rw [hq3] at O3 ⊢
 clear hq3
 have m0 := O3.out.c0
 have m1 := O3.out.c1
 go_wp2_with fail
 refine (HJ.out w1 (HF.out.below B1.out) (HT.out.below B1.out) (HS.out.below B1.out) (HM.out.below B1.out)).mono ?_
 rintro e w2 ⟨rfl, b2⟩
 have B2 := Lib.hid (B1.out.trans (b2.mono B1.out.size))
 clear b2 B1 O3 O4 m0 m1 HJ
 go_wp2_with fail
 go_ret2
 exact ⟨rfl, B2.out⟩

theorem new_any (w : World) (gs : Nat) (ws ks : Nat → BitVec 64) (ea eb : BitVec 64) (l : List InstV) (ms : List Int) (mA cA : Option Addr) (nm cm n c : Nat) (hn : n = l.length) (hnc : n ≤ c) (hnm : nm = ms.length) (hmc : nm ≤ cm) (hmm : nm ≤ 140737488351232)
 (hf : Frm w) (ht : Sg.Tab w) (hgf : 0 ≠ gs) (hgt : 5 ≠ gs) (hs : Sl w cA (inss l)) (hm : Sl w mA (ints ms)) (hcn : cA = none → n = 0 ∧ c = 0) (hmn : mA = none → nm = 0 ∧ cm = 0) (hj : (judV ms l).2 = 0) (hl : n ≤ 64) (hl4 : nm ≤ 4)
 (hca : ∀ a, cA = some a → a.block ≠ gs) (hma : ∀ a, mA = some a → a.block ≠ gs) (ho : Ob w gs 146 (arr 16 ws ++ (arr 16 ks ++ []))) :
 Calls Tryz.prog 30 #[.agg #[.slice mA nm cm, .slice cA n c], .agg #[.int .u64 (uv ea), .int .u64 (uv eb)], .pointer (some ⟨gs, 0, none⟩)] w fun e w' => ∃ g mA' cm' cA' cc', e = .returned (.tuple #[.pointer (some ⟨g, 0, none⟩), .int .i64 0]) ∧ MAt w' g gs ea eb (.slice mA' nm cm') (.slice cA' n cc') (st0 ks) ∧ w.heap.size ≤ g ∧
  Sl w' mA' (ints ms) ∧ Sl w' cA' (inss l) ∧ (∀ a, mA' = some a → w.heap.size ≤ a.block ∧ a.block < g) ∧ (∀ a, cA' = some a → w.heap.size ≤ a.block ∧ a.block < g) ∧ Tch (fun i => i = gs) w w' := by
 have HJ := Lib.hid (fun w hf ht hs hm => Jd.Judge_any w l ms mA cA nm cm n c hn hnc hnm hmc hmm hf ht hs hm)
 obtain ⟨⟨p, e0⟩, hV⟩ : ∃ V, judV ms l = V := ⟨_, rfl⟩
 rw [hV] at HJ hj
 dsimp only at HJ hj
 subst hj
 have HF := Lib.hid hf
 have HT := Lib.hid ht
 have HS := Lib.hid hs
 have HM := Lib.hid hm
 have HO := Lib.hid ho
 have HCI := Lib.hid (fun w hs => cloneI_any w mA nm cm (ints ms) (by rw [ints_length, Nat.mul_one]; exact hnm.symm) hmn (ints_one ms) (by omega) hs)
 have HCC := Lib.hid (fun w hs => cloneC_any w cA n c (inss l) (by rw [inss_length, hn]) hcn (inss_allone l) (by omega) hs)
 have HCA := Lib.hid hca
 have HMA := Lib.hid hma
 have B0 := Lib.hid (Below.refl w.heap.size w)
 clear hn hnc hnm hmc hmm hf ht hs hm hV hcn hmn hl hl4 hca hma ho hgf hgt
 go_enter Tryz.func30, Tryz.ntmps30
 go_upto_region 1 with fail
 have O3 := Lib.hid (Ob.alloc (Ob.fresh w 25 [.slice mA nm cm, .slice cA n c]) (.cells #[.int .u64 (uv ea), .int .u64 (uv eb)] 28))
 have O4 := Lib.hid (Ob.fresh (w.alloc (.cells #[.slice mA nm cm, .slice cA n c] 25)) 28 [.int .u64 (uv ea), .int .u64 (uv eb)])
 rw [show (w.alloc (.cells #[.slice mA nm cm, .slice cA n c] 25)).heap.size = w.heap.size + 1 by simp] at O4
 have B1 := Lib.hid (below_alloc (below_alloc (B0.out) (.cells #[.slice mA nm cm, .slice cA n c] 25)) (.cells #[.int .u64 (uv ea), .int .u64 (uv eb)] 28))
 have Hq3 := Lib.hid (show w.heap.size ≤ w.heap.size by have := B0.out.size; omega)
 have Hq4 := Lib.hid (show w.heap.size ≤ w.heap.size + 1 by have := B0.out.size; omega)
 clear B0
 generalize ((w.alloc (.cells #[.slice mA nm cm, .slice cA n c] 25)).alloc (.cells #[.int .u64 (uv ea), .int .u64 (uv eb)] 28)) = w1 at O3 O4 B1 ⊢
 obtain ⟨q4, hq4⟩ : ∃ q4, w.heap.size + 1 = q4 := ⟨_, rfl⟩
 rw [hq4] at O4 Hq4 ⊢
 clear hq4
 obtain ⟨q3, hq3⟩ : ∃ q3, w.heap.size = q3 := ⟨_, rfl⟩
 have Hq3 := Lib.hid (Nat.le_of_eq hq3)
 rw [hq3] at O3 ⊢
 clear hq3
 have m0 := O3.out.c0
 have m1 := O3.out.c1
 go_wp2_with fail
 refine (HJ.out w1 (HF.out.below B1.out) (HT.out.below B1.out) (HS.out.below B1.out) (HM.out.below B1.out)).mono ?_
 rintro e w2 ⟨rfl, b2⟩
 have B2 := Lib.hid (B1.out.trans (b2.mono B1.out.size))
 have O3b := Lib.hid (O3.out.below b2 O3.out.lt)
 have O4b := Lib.hid (O4.out.below b2 O4.out.lt)
 clear b2 B1 O3 O4 m0 m1 HJ
 go_wp2_with fail
 refine (wipe_any gs 0 146 [] (arr 16 ks ++ []) ws rfl w2 (HO.out.below B2.out HO.out.lt)).mono ?_
 rintro e w3 ⟨rfl, o3, k3⟩
 have G3 := Lib.hid o3
 have T3 := Lib.hid ((Tch.of_below (S := fun i => i = gs) B2.out).trans (Tch.of_only k3))
 have M3 := Lib.hid (O3b.out.only k3 (O3b.out.ne_ (HO.out.below B2.out HO.out.lt) (by decide)))
 have V3 := Lib.hid (O4b.out.only k3 (O4b.out.ne_ (HO.out.below B2.out HO.out.lt) (by decide)))
 clear o3 k3 B2 O3b O4b
 go_upto_region 7 with fail
 obtain ⟨wd, hwd⟩ : ∃ wd, w3.drew = wd := ⟨_, rfl⟩
 have BD := Lib.hid (show Below w3.heap.size w3 wd from hwd ▸ below_drewN (Below.refl w3.heap.size w3) 1)
 have KS := Lib.hid (show ∀ w', Below w3.heap.size w3 w' → (w'.cell? ⟨q3, 0, none⟩ = some (.slice mA nm cm) ∧ w'.cell? ⟨q3, 1, none⟩ = some (.slice cA n c) ∧ w'.cell? ⟨q4, 0, none⟩ = some (.int .u64 (uv ea)) ∧ w'.cell? ⟨q4, 1, none⟩ = some (.int .u64 (uv eb))) from fun w' hb => ⟨(M3.out.below hb M3.out.lt).cell 0, (M3.out.below hb M3.out.lt).cell 1, (V3.out.below hb V3.out.lt).cell 0, (V3.out.below hb V3.out.lt).cell 1⟩)
 refine wp_region_held_drew (S := fun w' => (w'.cell? ⟨q3, 0, none⟩ = some (.slice mA nm cm) ∧ w'.cell? ⟨q3, 1, none⟩ = some (.slice cA n c) ∧ w'.cell? ⟨q4, 0, none⟩ = some (.int .u64 (uv ea)) ∧ w'.cell? ⟨q4, 1, none⟩ = some (.int .u64 (uv eb)))) (by kernel_rfl) (hwd ▸ KS.out wd BD.out) (fun hHeld => ?_)
 refine tkq 0 24 rfl (by kernel_rfl) (by rfl) hHeld (fun _ _ _ h => h) (by intro w' hSw; go_simp; try with_reducible rfl) ?_
 simp only [Act.put, spa, spb, spc]
 refine tkq 1 25 rfl (by kernel_rfl) (by rfl) hHeld (fun _ _ _ h => h) (by intro w' hSw; go_simp; try with_reducible rfl) ?_
 simp only [Act.put, spa, spb, spc]
 refine tkq 2 26 rfl (by kernel_rfl) (by rfl) hHeld (fun _ _ _ h => h) (by intro w' hSw; go_simp; try with_reducible rfl) ?_
 simp only [Act.put, spa, spb, spc]
 refine tkq 4 28 rfl (by kernel_rfl) (by rfl) hHeld (fun _ _ _ h => h) (by intro w' hSw; go_simp; try with_reducible rfl) ?_
 simp only [Act.put, spa, spb, spc]
 refine tkq 5 29 rfl (by kernel_rfl) (by rfl) hHeld (fun _ _ _ h => h) (by intro w' hSw; go_simp; try with_reducible rfl) ?_
 simp only [Act.put, spa, spb, spc]
 refine tkq 8 32 rfl (by kernel_rfl) (by rfl) hHeld (fun _ _ _ h => h) (by intro w' hSw; go_simp; try with_reducible rfl) ?_
 simp only [Act.put, spa, spb, spc]
 refine rdq 3 ⟨some 27, _, _, _, _, _⟩ (by kernel_rfl) rfl (fun K' hK => ?_)
 go_simp
 refine (HCI.out wd (sl_tch HM.out (T3.out.trans (Tch.of_below BD.out)) HMA.out)).mono ?_
 rintro e wx ⟨⟨mA', cm', rfl, hle1, hsl1, hap1, hno1⟩, bx⟩
 have BX := Lib.hid (BD.out.trans (bx.mono BD.out.size))
 have SM := Lib.hid hsl1
 have AM := Lib.hid (show ∀ a, mA' = some a → w3.heap.size ≤ a.block ∧ a.block < wx.heap.size from fun a h => ⟨Nat.le_trans BD.out.size (hap1 a h).1, (hap1 a h).2⟩)
 clear bx hle1 hsl1 hap1 hno1
 refine hK.out _ _ (KS.out _ BX.out) (fun hHeld => ?_)
 clear hK K'
 refine rdq 6 ⟨some 30, _, _, _, _, _⟩ (by kernel_rfl) rfl (fun K' hK => ?_)
 go_simp
 refine (HCC.out wx (sl_tch HS.out (T3.out.trans (Tch.of_below BX.out)) HCA.out)).mono ?_
 rintro e wy ⟨⟨cA', cc', rfl, hle1, hsl1, hap1, hno1⟩, by_⟩
 have BY := Lib.hid (BX.out.trans (by_.mono BX.out.size))
 have SM2 := Lib.hid (SM.out.below by_)
 have SC := Lib.hid hsl1
 have AC := Lib.hid (show ∀ a, cA' = some a → w3.heap.size ≤ a.block ∧ a.block < wy.heap.size from fun a h => ⟨Nat.le_trans BX.out.size (hap1 a h).1, (hap1 a h).2⟩)
 have XY := Lib.hid by_.size
 clear by_ hle1 hsl1 hap1 hno1 SM
 refine hK.out _ _ (KS.out _ BY.out) (fun hHeld => ?_)
 clear hK K'
 refine tkq 7 31 rfl (by kernel_rfl) (by rfl) hHeld (fun _ _ _ h => h) (by intro w' hSw; go_simp; try with_reducible rfl) ?_
 simp only [Act.put, spa, spb, spc]
 refine tkq 9 33 rfl (by kernel_rfl) (by rfl) hHeld (fun _ _ _ h => h) (by intro w' hSw; go_simp; try with_reducible rfl) ?_
 simp only [Act.put, spa, spb, spc]
 refine rdq 10 ⟨some 34, _, _, _, _, _⟩ (by kernel_rfl) rfl (fun K' hK => ?_)
 go_simp
 refine hK.out _ _ (KS.out _ (below_alloc BY.out (.cells (((((Tryz.zeroCells153.setIfInBounds 0 (.int .u64 (uv ea))).setIfInBounds 1 (.int .u64 (uv eb))).setIfInBounds 2 (.slice mA' nm cm')).setIfInBounds 3 (.slice cA' n cc')).setIfInBounds 4 (.pointer (some ⟨gs, 0, none⟩))) 153))) (fun hHeld => ?_)
 clear hK K'
 have G5 := Lib.hid (G3.out.below (below_alloc BY.out (.cells (((((Tryz.zeroCells153.setIfInBounds 0 (.int .u64 (uv ea))).setIfInBounds 1 (.int .u64 (uv eb))).setIfInBounds 2 (.slice mA' nm cm')).setIfInBounds 3 (.slice cA' n cc')).setIfInBounds 4 (.pointer (some ⟨gs, 0, none⟩))) 153)) G3.out.lt)
 have GM := Lib.hid (show Ob (wy.alloc (.cells (((((Tryz.zeroCells153.setIfInBounds 0 (.int .u64 (uv ea))).setIfInBounds 1 (.int .u64 (uv eb))).setIfInBounds 2 (.slice mA' nm cm')).setIfInBounds 3 (.slice cA' n cc')).setIfInBounds 4 (.pointer (some ⟨gs, 0, none⟩))) 153)) wy.heap.size 153 (rg 80 (mcell ea eb (.slice mA' nm cm') (.slice cA' n cc') (.pointer (some ⟨gs, 0, none⟩)) (st0 ks))) from by rw [mc_zero]; exact Ob.fresh wy _ _)
 have TZ := Lib.hid (T3.out.trans (Tch.of_below (below_alloc BY.out (.cells (((((Tryz.zeroCells153.setIfInBounds 0 (.int .u64 (uv ea))).setIfInBounds 1 (.int .u64 (uv eb))).setIfInBounds 2 (.slice mA' nm cm')).setIfInBounds 3 (.slice cA' n cc')).setIfInBounds 4 (.pointer (some ⟨gs, 0, none⟩))) 153))))
 have SMZ := Lib.hid (SM2.out.alloc (.cells (((((Tryz.zeroCells153.setIfInBounds 0 (.int .u64 (uv ea))).setIfInBounds 1 (.int .u64 (uv eb))).setIfInBounds 2 (.slice mA' nm cm')).setIfInBounds 3 (.slice cA' n cc')).setIfInBounds 4 (.pointer (some ⟨gs, 0, none⟩))) 153))
 have SCZ := Lib.hid (SC.out.alloc (.cells (((((Tryz.zeroCells153.setIfInBounds 0 (.int .u64 (uv ea))).setIfInBounds 1 (.int .u64 (uv eb))).setIfInBounds 2 (.slice mA' nm cm')).setIfInBounds 3 (.slice cA' n cc')).setIfInBounds 4 (.pointer (some ⟨gs, 0, none⟩))) 153))
 refine tkq 11 6 rfl (by kernel_rfl) (by rfl) hHeld (fun _ _ _ h => h) (by intro w' hSw; go_simp; try with_reducible rfl) ?_
 simp only [Act.put, spa, spb, spc]
 refine tkq 12 7 rfl (by kernel_rfl) (by rfl) hHeld (fun _ _ _ h => h) (by intro w' hSw; go_simp; try with_reducible rfl) ?_
 simp only [Act.put, spa, spb, spc]
 refine wpAnyH_done (by kernel_rfl) ?_ _
 clear hHeld
 generalize wy.alloc (.cells (((((Tryz.zeroCells153.setIfInBounds 0 (.int .u64 (uv ea))).setIfInBounds 1 (.int .u64 (uv eb))).setIfInBounds 2 (.slice mA' nm cm')).setIfInBounds 3 (.slice cA' n cc')).setIfInBounds 4 (.pointer (some ⟨gs, 0, none⟩))) 153) = wf at G5 GM TZ SMZ SCZ ⊢
 go_wp2_with fail
 go_ret2
 have hsz := Nat.le_trans T3.out.size BY.out.size
 refine ⟨wy.heap.size, mA', cm', cA', cc', rfl, ⟨?_, G5.out⟩, hsz, SMZ.out, SCZ.out, fun a h => ⟨Nat.le_trans T3.out.size (AM.out a h).1, Nat.lt_of_lt_of_le (AM.out a h).2 XY.out⟩, fun a h => ⟨Nat.le_trans T3.out.size (AC.out a h).1, (AC.out a h).2⟩, TZ.out⟩
 exact GM.out

end Go.Proofs.YtikkmkomlajnfaaGreatDoor.En
end

section
namespace Go.Proofs.YtikkmkomlajnfaaGreatDoor.Wf
open Go.RowKit
open Go.Proofs.YtikkmkomlajnfaaGreatDoor.Op (InstV ins0 rightV right_is RightI CheckI)
open Go.Proofs.YtikkmkomlajnfaaGreatDoor.En (StV updI ActV acc acVal srcU runS runD stepS stepA callS callA okI okC ansS ResOk)
open Go.Proofs.YtikkmkomlajnfaaGreatDoor.Sg (ResV)
open Go.Proofs.YtikkmkomlajnfaaGreatDoor.Lw (Inv TypedV pot pot_pos step_ok step_keeps call_keeps ans_keeps)

/-- what the steps tell -/
def traceV (ms : List Int) (l : List InstV) (ea eb : BitVec 64) : Nat → StV → List ResV → List ActV
 | 0, _, _ => []
 | f + 1, S, rs =>
   if (stepA ms (l.getD S.pc ins0) S).k = 4 then [stepA ms (l.getD S.pc ins0) S]
   else if (stepA ms (l.getD S.pc ins0) S).k = 2 then
    (match rs with
    | [] => [stepA ms (l.getD S.pc ins0) S]
    | r :: t => stepA ms (l.getD S.pc ins0) S :: traceV ms l ea eb f (ansS (l.getD S.pc ins0) r (stepS ea eb (l.getD S.pc ins0) S)) t)
   else stepA ms (l.getD S.pc ins0) S :: traceV ms l ea eb f (stepS ea eb (l.getD S.pc ins0) S) rs
theorem trace_end {ms : List Int} {l : List InstV} {ea eb : BitVec 64} {f : Nat} {S : StV} {rs : List ResV} (h : (stepA ms (l.getD S.pc ins0) S).k = 4) : traceV ms l ea eb (f + 1) S rs = [stepA ms (l.getD S.pc ins0) S] := by
 unfold traceV; rw [if_pos h]
theorem trace_out {ms : List Int} {l : List InstV} {ea eb : BitVec 64} {f : Nat} {S : StV} (h : (stepA ms (l.getD S.pc ins0) S).k = 2) : traceV ms l ea eb (f + 1) S [] = [stepA ms (l.getD S.pc ins0) S] := by
 unfold traceV; rw [if_neg (by omega), if_pos h]
theorem trace_ask {ms : List Int} {l : List InstV} {ea eb : BitVec 64} {f : Nat} {S : StV} {r : ResV} {t : List ResV} (h : (stepA ms (l.getD S.pc ins0) S).k = 2) :
 traceV ms l ea eb (f + 1) S (r :: t) = stepA ms (l.getD S.pc ins0) S :: traceV ms l ea eb f (ansS (l.getD S.pc ins0) r (stepS ea eb (l.getD S.pc ins0) S)) t := by
 conv => lhs; unfold traceV
 rw [if_neg (by omega), if_pos h]
theorem trace_on {ms : List Int} {l : List InstV} {ea eb : BitVec 64} {f : Nat} {S : StV} {rs : List ResV} (h4 : (stepA ms (l.getD S.pc ins0) S).k ≠ 4) (h2 : (stepA ms (l.getD S.pc ins0) S).k ≠ 2) :
 traceV ms l ea eb (f + 1) S rs = stepA ms (l.getD S.pc ins0) S :: traceV ms l ea eb f (stepS ea eb (l.getD S.pc ins0) S) rs := by
 conv => lhs; unfold traceV
 rw [if_neg h4, if_neg h2]

theorem run_rest {ea eb : BitVec 64} {i : InstV} {S : StV} : (runS ea eb i S).st = S.st ∧ (runS ea eb i S).steps = S.steps := by
 unfold runS
 repeat' split
 all_goals exact ⟨rfl, rfl⟩
/-- it goes on -/
structure OnG (ms : List Int) (l : List InstV) (T : Nat → Nat → Jd.JT) (M : Nat → Bool) (ea eb : BitVec 64) (S : StV) : Prop where
 k4 : (stepA ms (l.getD S.pc ins0) S).k ≠ 4
 k2 : (stepA ms (l.getD S.pc ins0) S).k ≠ 2
 st : (stepS ea eb (l.getD S.pc ins0) S).st = 0
 ss : (stepS ea eb (l.getD S.pc ins0) S).steps = S.steps + 1
 iv : Inv ms.length l T M (stepS ea eb (l.getD S.pc ins0) S)
 po : pot l (stepS ea eb (l.getD S.pc ins0) S) + 1 ≤ pot l S
/-- it asks -/
structure AskG (ms : List Int) (l : List InstV) (T : Nat → Nat → Jd.JT) (M : Nat → Bool) (ea eb : BitVec 64) (S : StV) : Prop where
 k2 : (stepA ms (l.getD S.pc ins0) S).k = 2
 st : (stepS ea eb (l.getD S.pc ins0) S).st = 1
 pc : (stepS ea eb (l.getD S.pc ins0) S).pc = S.pc
 ss : ∀ r, (ansS (l.getD S.pc ins0) r (stepS ea eb (l.getD S.pc ins0) S)).steps = S.steps + 1
 iv : ∀ r, Inv ms.length l T M (ansS (l.getD S.pc ins0) r (stepS ea eb (l.getD S.pc ins0) S))
 po : ∀ r, pot l (ansS (l.getD S.pc ins0) r (stepS ea eb (l.getD S.pc ins0) S)) + 1 ≤ pot l S
section
variable {ms : List Int} {l : List InstV} {T : Nat → Nat → Jd.JT} {M : Nat → Bool} {S : StV} (ea eb : BitVec 64)
/-- a step goes on, asks, or ends -/
theorem turn_is (hc : CheckI l) (ht : TypedV ms.length l T M) (h : Inv ms.length l T M S) (h0 : S.st = 0) : OnG ms l T M ea eb S ∨ AskG ms l T M ea eb S ∨ (stepA ms (l.getD S.pc ins0) S).k = 4 := by
 by_cases h22 : (l.getD S.pc ins0).op = 22
 · exact .inr (.inr (by unfold stepA; rw [if_neg (show ¬ (l.getD S.pc ins0).op = 21 by omega), if_pos h22]))
 by_cases h21 : (l.getD S.pc ins0).op = 21
 · by_cases h5 : (l.getD S.pc ins0).m < 5
   · have k := fun r => ans_keeps (ea := ea) (eb := eb) (r := r) hc ht h h21 h5
     have es : stepS ea eb (l.getD S.pc ins0) S = { S with steps := S.steps + 1, st := 1 } := by
      unfold stepS callS
      rw [if_pos h21, if_pos h5]
     refine .inr (.inl ⟨by unfold stepA callA; rw [if_pos h21, if_pos h5], by rw [es], by rw [es], fun r => ?_, fun r => (k r).1, fun r => (k r).2⟩)
     rw [es]; rfl
   have k := call_keeps (ea := ea) (eb := eb) hc ht h h21 h5
   by_cases e5 : (l.getD S.pc ins0).m = 5
   · have a : (stepA ms (l.getD S.pc ins0) S).k = 1 := by unfold stepA callA; rw [if_pos h21, if_neg h5, if_pos e5]
     refine .inl ⟨by rw [a]; decide, by rw [a]; decide, ?_, ?_, k.1, k.2⟩
     all_goals
      unfold stepS callS
      rw [if_pos h21, if_neg h5, if_pos e5]
     exact h0
   have a : (stepA ms (l.getD S.pc ins0) S).k = 3 := by unfold stepA callA; rw [if_pos h21, if_neg h5, if_neg e5]
   refine .inl ⟨by rw [a]; decide, by rw [a]; decide, ?_, ?_, k.1, k.2⟩
   all_goals
    unfold stepS callS
    rw [if_pos h21, if_neg h5, if_neg e5]
   exact h0
 have k := step_keeps (ea := ea) (eb := eb) hc ht h h22 h21
 have e := run_rest (ea := ea) (eb := eb) (i := l.getD S.pc ins0) (S := { S with steps := S.steps + 1 })
 have a : (stepA ms (l.getD S.pc ins0) S).k = 1 := by unfold stepA; rw [if_neg h21, if_neg h22]
 refine .inl ⟨by rw [a]; decide, by rw [a]; decide, ?_, ?_, k.1, k.2⟩
 all_goals
  unfold stepS
  rw [if_neg h21, if_neg h22]
  dsimp only
 · exact e.1.trans h0
 exact e.2
end
end Go.Proofs.YtikkmkomlajnfaaGreatDoor.Wf
end
