/- A part of a run of a program on a heap of its own, and that the machine does what that run says: no condition but those that each theorem names. -/
import Derived.Test.YtkhjmmidaihbhaaDet15
set_option linter.unusedSimpArgs false
set_option linter.unusedVariables false
namespace Go.Det

variable {P : Program} {base : Nat} {W0 : World} {call : XCall}

theorem pairOk_spec {ms : List Nat} {ds : List XDop} (h : pairOk ms ds = true) {i j : Nat} {p q : XDop} (hi : ds[i]? = some p) (hj : ds[j]? = some q) (hne : i ≠ j) :
    (p.kind = 2 → q.kind = 2 → bitOf ms i j = true) ∧ (∀ s, q.x.dst = some s → (Fr.has p.rd s = true → bitOf ms i j = true) ∧ (p.x.dst = some s → bitOf ms i j = true)) := by
  have mem : ∀ (k : Nat) (d : XDop), ds[k]? = some d → (d, k) ∈ ds.zipIdx := by
    intro k d hk
    rw [List.mem_zipIdx_iff_getElem?]
    simpa using hk
  have h1 := List.all_eq_true.1 (List.all_eq_true.1 h _ (mem i p hi)) _ (mem j q hj)
  have hb : Nat.beq i j = false := by rw [Tr.beq_eq]; simp [hne]
  simp only [hb, Bool.false_or, Bool.and_eq_true] at h1
  obtain ⟨h1, h2⟩ := h1
  refine ⟨fun k1 k2 => ?_, fun s hs => ?_⟩
  · rw [k1, k2] at h1; simpa using h1
  · simp only [hs, Bool.and_eq_true] at h2
    refine ⟨fun hh => ?_, fun hh => ?_⟩
    · have := h2.1; rw [hh] at this; simpa using this
    · have := h2.2; rw [hh] at this; simpa using this

theorem getD_lt {listed : Array Bool} {j : Nat} (hj : j < listed.size) (d : Bool) : listed.getD j d = listed[j] := by simp [Array.getD, hj]

structure DInv (P : Program) (base : Nat) (W0 : World) (N : Nat) (ops : Array Oper) (ds : List XDop) (f : Nat → Fr) (h : Nat → AH) (m0 : Mp) (w0 : World) (listed : Array Bool) (a : Act) (w : World) (m : Mp) (t : Nat) : Prop where
  hr : HR P base W0 m (h t) w
  fut : Fut m0 (h 0) w0 m (h t) w
  df : a.defers = []
  sz : N ≤ a.tmps.size
  lsz : listed.size = ds.length
  closed : ∀ k o, listed.getD k false = true → ops[k]? = some o → ∀ e ∈ o.after, Region.binds .any e = true → listed.getD e.on false = true
  tn : t ≤ ds.length
  te : ∀ (j : Nat) (d : XDop), ds[j]? = some d → d.kind = 2 → (listed.getD j false = true ↔ j < t)
  ts : t = 0 ∨ ∃ (j : Nat) (d : XDop), ds[j]? = some d ∧ d.kind = 2 ∧ t = j + 1
  fa : ∀ s, (∀ (j : Nat) (d : XDop), ds[j]? = some d → listed.getD j false = true → d.x.dst ≠ some s) → ∀ v, (f 0).get s = some v → ∃ v', a.tmps[s]? = some v' ∧ VRel m v v'
  fb : ∀ (s i : Nat) (d : XDop), ds[i]? = some d → listed.getD i false = true → d.x.dst = some s → (∀ (j : Nat) (e : XDop), ds[j]? = some e → listed.getD j false = true → e.x.dst = some s → j ≤ i) →
    ∀ v, (f (i + 1)).get s = some v → ∃ v', a.tmps[s]? = some v' ∧ VRel m v v'

theorem tmpsOf_mem : ∀ (l : List Operand) (t : Nat), Operand.tmp t ∈ l → t ∈ tmpsOf l
  | [], t, h => by simp at h
  | .tmp u :: r, t, h => by
    simp only [tmpsOf, List.mem_cons] at *
    rcases h with h | h
    · cases h; exact .inl rfl
    · exact .inr (tmpsOf_mem r t h)
  | .const c :: r, t, h => by
    simp only [tmpsOf, List.mem_cons] at *
    rcases h with h | h
    · cases h
    · exact tmpsOf_mem r t h
  | .global c :: r, t, h => by
    simp only [tmpsOf, List.mem_cons] at *
    rcases h with h | h
    · cases h
    · exact tmpsOf_mem r t h
  | .func c :: r, t, h => by
    simp only [tmpsOf, List.mem_cons] at *
    rcases h with h | h
    · cases h
    · exact tmpsOf_mem r t h

theorem keep_has (fr : Fr) (ks : List Nat) (i : Nat) (v : Value) (h : (fr.keep ks).get i = some v) : Fr.has ks i = true := by
  induction fr with
  | nil => simp [Fr.keep, Fr.get] at h
  | cons p r ih =>
    simp only [Fr.keep] at h
    cases hb : Fr.has ks p.1
    · simp only [hb, cond_false] at h; exact ih h
    · simp only [hb, cond_true, Fr.get, Tr.beq_eq] at h
      by_cases hp : p.1 = i
      · rw [← hp]; exact hb
      · simp only [hp, decide_false, cond_false] at h; exact ih h

theorem xdops_wpAny (hcall : CallsOk P call) {N : Nat} {ops : Array Oper} {ds : List XDop} {Q : Exit → Act → World → Prop} {fr fr' : Fr} {H H' : AH} {m0 : Mp} {a0 : Act} {w0 : World} (hc : cDops P N ops = some ds)
    (hx : xdops P call ds fr H = some (fr', H')) (hst : St P base W0 N m0 fr H a0 w0) (hq : ∀ m' a' w', St P base W0 N m' fr' H' a' w' → Fut m0 H w0 m' H' w' → Q .normal a' w') :
    wpAny P .any ops Q ops.size (Array.replicate ops.size false) a0 w0 := by
  unfold cDops at hc
  split at hc
  · simp at hc
  rename_i xs hxs
  cases hok : (depOk ops (masks ops.toList []) && pairOk (masks ops.toList []) (mkD (masks ops.toList []) (xs.map fun x => kindOf x.op) 0 xs (ops.toList.map (rdOf ops))))
  · simp only [hok, cond_false] at hc; cases hc
  simp only [hok, cond_true, Option.some.injEq] at hc
  obtain ⟨hdep, hpair⟩ := Bool.and_eq_true_iff.1 hok
  rw [hc] at hpair
  generalize hms : masks ops.toList [] = ms at *
  obtain ⟨hxl, hxget⟩ := cOpers_get _ _ hxs
  have hlen : ds.length = ops.size := by
    rw [← hc, mkD_length _ _ _ _ _ (by simp [hxl]), hxl, Array.length_toList]
  -- what an operation is
  have hds : ∀ (k : Nat) (d : XDop), ds[k]? = some d → ∃ o, ops[k]? = some o ∧ cOper P N ops o = some d.x ∧ d.kind = kindOf d.x.op ∧
      d.stab = (bif Nat.beq d.kind 1 then stabList ms (xs.map fun x => kindOf x.op) k else []) ∧ (xs.map fun x => kindOf x.op).getD k 0 = d.kind := by
    intro k d hk
    rw [← hc] at hk
    obtain ⟨x, r, h1, h2, h3⟩ := mkD_get _ _ _ _ _ _ _ hk
    obtain ⟨o, g1, g2⟩ := hxget k x h1
    subst h3
    refine ⟨o, by simpa using g1, g2, rfl, by simp, ?_⟩
    simp [List.getD_eq_getElem?_getD, h1]
  have hkl : (xs.map fun x => kindOf x.op).length = ds.length := by simp [hxl, hlen]
  have hks : ∀ k, k < ds.length → ∃ d, ds[k]? = some d ∧ (xs.map fun x => kindOf x.op).getD k 0 = d.kind := by
    intro k hk
    refine ⟨ds[k], List.getElem?_eq_getElem hk, ?_⟩
    obtain ⟨_, _, _, _, _, g⟩ := hds k _ (List.getElem?_eq_getElem hk)
    exact g
  generalize hkse : (xs.map fun x => kindOf x.op) = ks at *
  -- the run
  unfold xdops at hx
  split at hx
  case h_2 => simp at hx
  rename_i r hrun
  cases hstab : r.cs.all (stabOk P call r.hs)
  · simp only [hstab, cond_false] at hx; cases hx
  simp only [hstab, cond_true, Option.some.injEq, Prod.mk.injEq] at hx
  obtain ⟨rfl, rfl⟩ := hx
  obtain ⟨f, h, v, t1, t2, t3, t4, t5, t6, _⟩ := drun_trace ds 0 fr H _ _ r hrun
  simp only [Nat.zero_add] at t3 t4 t5 t6
  have t5' : ∀ (k : Nat) (d : XDop), ds[k]? = some d → xval P call d.x ((f k).keep d.rd) (h k) = some (v k, h (k + 1)) ∧ f (k + 1) = (f k).put? d.x.dst (v k) ∧ (d.stab ≠ [] → (d, (f k).keep d.rd, v k) ∈ r.cs) := t5
  -- heaps that stay
  have hconst : ∀ i t, t ≤ i → i ≤ ds.length → (∀ (k : Nat) (d : XDop), t ≤ k → k < i → ds[k]? = some d → d.kind ≠ 2) → h i = h t := by
    intro i
    induction i with
    | zero => intro t ht _ _; rw [Nat.le_zero.1 ht]
    | succ i ih =>
      intro t ht hi hk
      rcases Nat.lt_or_ge i t with h' | h'
      · rw [show t = i + 1 by omega]
      · have hd := List.getElem?_eq_getElem (show i < ds.length by omega)
        have hnk := hk i _ h' (by omega) hd
        obtain ⟨_, _, _, g, _, _⟩ := hds i _ hd
        have := (t5' i _ hd).1
        rw [← ih t h' (by omega) (fun k d a b c => hk k d a (by omega) c)]
        rcases kind_le ds[i].x.op with kk | kk | kk
        · exact (xval_pure kk this (h i)).1
        · exact xval_read kk this
        · rw [← g] at kk; exact absurd kk hnk
  -- the last writer of a slot
  have lastW : ∀ i, i ≤ ds.length → ∀ s, (∃ (d : Nat) (e : XDop), d < i ∧ ds[d]? = some e ∧ e.x.dst = some s ∧ (∀ (j : Nat) (e' : XDop), d < j → j < i → ds[j]? = some e' → e'.x.dst ≠ some s) ∧ (f i).get s = (f (d + 1)).get s) ∨
      ((∀ (j : Nat) (e' : XDop), j < i → ds[j]? = some e' → e'.x.dst ≠ some s) ∧ (f i).get s = (f 0).get s) := by
    intro i
    induction i with
    | zero => intro _ s; exact .inr ⟨fun j _ hj => by omega, rfl⟩
    | succ i ih =>
      intro hi s
      have hd := List.getElem?_eq_getElem (show i < ds.length by omega)
      have hput := (t5' i _ hd).2.1
      by_cases hw : ds[i].x.dst = some s
      · exact .inl ⟨i, _, by omega, hd, hw, fun j _ a b => by omega, rfl⟩
      · have hget : (f (i + 1)).get s = (f i).get s := by rw [hput, Fr.get_put?, if_neg hw]
        rcases ih (by omega) s with ⟨d, e, g1, g2, g3, g4, g5⟩ | ⟨g1, g2⟩
        · refine .inl ⟨d, e, by omega, g2, g3, fun j e' a b c => ?_, by rw [hget, g5]⟩
          by_cases hji : j = i
          · subst hji; rw [hd] at c; cases c; exact hw
          · exact g4 j e' a (by omega) c
        · refine .inr ⟨fun j e' a b => ?_, by rw [hget, g2]⟩
          by_cases hji : j = i
          · subst hji; rw [hd] at b; cases b; exact hw
          · exact g1 j e' (by omega) b
  -- all has been carried out
  have hfin : ∀ (listed : Array Bool) (a : Act) (w : World) (m : Mp) (t : Nat), DInv P base W0 N ops ds f h m0 w0 listed a w m t → (∀ j, j < ds.length → listed.getD j false = true) → Q .normal a w := by
    intro listed a w m t I hall
    have hh : h ds.length = h t := hconst _ t I.tn (Nat.le_refl _) fun k d a1 a2 hd hk => by
      have := (I.te k d hd hk).1 (hall k a2)
      omega
    refine hq m a w { hr := ?_, fr := ?_, df := I.df, sz := I.sz } ?_
    · rw [← t4, hh]; exact I.hr
    · rw [← t3]
      intro s u hu
      rcases lastW ds.length (Nat.le_refl _) s with ⟨d, e, g1, g2, g3, g4, g5⟩ | ⟨g1, g2⟩
      · refine I.fb s d e g2 (hall d g1) g3 (fun j e' hj _ hw => ?_) u (by rw [← g5]; exact hu)
        rcases Nat.lt_or_ge d j with h' | h'
        · have : j < ds.length := (List.getElem?_eq_some_iff.1 hj).1
          exact absurd hw (g4 j e' h' this hj)
        · exact h'
      · refine I.fa s (fun j e' hj _ => g1 j e' (List.getElem?_eq_some_iff.1 hj).1 hj) u (by rw [← g2]; exact hu)
    · rw [← t4, hh, ← t2]; exact I.fut
  -- the rounds
  have main : ∀ (fuel : Nat) (listed : Array Bool) (a : Act) (w : World) (m : Mp) (t : Nat), DInv P base W0 N ops ds f h m0 w0 listed a w m t → listed.toList.count false = fuel → wpAny P .any ops Q fuel listed a w := by
    intro fuel
    induction fuel with
    | zero =>
      intro listed a w m t I hcnt
      have hall : ∀ j, j < ds.length → listed.getD j false = true := by
        intro j hj
        have hj' : j < listed.size := by rw [I.lsz]; exact hj
        rw [getD_lt hj']
        have := List.count_eq_zero.1 hcnt
        cases hb : listed[j]
        · exfalso; apply this; rw [← hb]; simp
        · rfl
      refine ⟨?_, hfin listed a w m t I hall⟩
      cases hr : Region.ready .any ops listed with
      | nil => rfl
      | cons x l =>
        have : x ∈ Region.ready .any ops listed := by rw [hr]; simp
        obtain ⟨g1, o, g2, _⟩ := mem_ready.1 this
        have hx : x < ds.length := by rw [hlen]; exact (Array.getElem?_eq_some_iff.1 g2).1
        have h1 := hall x hx
        rw [getD_lt (by rw [I.lsz]; exact hx)] at g1 h1
        rw [h1] at g1; simp at g1
    | succ fuel ih =>
      intro listed a w m t I hcnt
      refine ⟨fun hnil => hfin listed a w m t I ?_, ?_⟩
      · -- nothing is ready: all is done
        intro j
        induction j using Nat.strongRecOn with
        | _ j ihj =>
          intro hj
          cases hb : listed.getD j false
          · exfalso
            have hjo : j < ops.size := by rw [← hlen]; exact hj
            have : j ∈ Region.ready .any ops listed := by
              rw [mem_ready]
              refine ⟨?_, ops[j], Array.getElem?_eq_getElem hjo, fun e he hbe => ?_⟩
              · rw [getD_lt (by rw [I.lsz]; exact hj)] at hb ⊢; exact hb
              · have h1 := List.all_eq_true.1 hdep j (List.mem_range.2 hjo)
                simp only [Array.getElem?_eq_getElem hjo, Bool.and_eq_true] at h1
                have := List.all_eq_true.1 h1.2 e (by simpa using he)
                simp only [hbe, Bool.not_true, Bool.false_or] at this
                exact ihj e.on (natlt this) (by have := natlt this; omega)
            rw [hnil] at this; cases this
          · rfl
      · intro i hi
        obtain ⟨g1, o, ho, hedge⟩ := mem_ready.1 hi
        have hin : i < ds.length := by rw [hlen]; exact (Array.getElem?_eq_some_iff.1 ho).1
        have hil : i < listed.size := by rw [I.lsz]; exact hin
        have hno : listed.getD i false = false := by rw [getD_lt hil] at g1 ⊢; exact g1
        obtain ⟨d, hd, hkd⟩ := hks i hin
        obtain ⟨o', ho', hco, hkind, hstb, _⟩ := hds i d hd
        rw [ho] at ho'; cases ho'
        obtain ⟨r1, r2, r3⟩ := t5' i d hd
        obtain ⟨dd1, dd2⟩ := cOper_dst hco
        -- what others must be
        have bit : ∀ j, bitOf ms i j = true → j ≠ i → (j < i → listed.getD j false = true) ∧ (i < j → listed.getD j false = false) := by
          intro j hb hji
          unfold bitOf at hb
          refine ⟨fun hlt => ?_, fun hlt => ?_⟩
          · have : Nat.blt j i = true := by simp [Nat.blt]; omega
            rw [this] at hb
            exact mask_closed hdep (fun k => listed.getD k false = true) I.closed i o ho hedge j hb
          · have : Nat.blt j i = false := by
              cases hbl : Nat.blt j i
              · rfl
              · have := natlt hbl; omega
            rw [this] at hb
            cases hex : listed.getD j false
            · rfl
            · exfalso
              have hjn : j < ops.size := by
                rcases Nat.lt_or_ge j ops.size with h' | h'
                · exact h'
                · rw [show listed.getD j false = false from by simp [Array.getD, show ¬ j < listed.size by rw [I.lsz, hlen]; omega]] at hex; simp at hex
              have := mask_closed hdep (fun k => listed.getD k false = true) I.closed j _ (Array.getElem?_eq_getElem hjn) (I.closed j _ hex (Array.getElem?_eq_getElem hjn)) i hb
              rw [hno] at this; simp at this
        -- the operation's own slots
        have hfr : FrRel m ((f i).keep d.rd) a.tmps := by
          intro s u hu
          have hhas := keep_has _ _ _ _ hu
          have hu' := Fr.get_keep _ _ _ _ hu
          have hwr : ∀ (j : Nat) (e : XDop), ds[j]? = some e → e.x.dst = some s → j ≠ i → (j < i → listed.getD j false = true) ∧ (i < j → listed.getD j false = false) := by
            intro j e he hes hji
            exact bit j (((pairOk_spec hpair hd he (fun x => hji x.symm)).2 s hes).1 hhas) hji
          rcases lastW i (Nat.le_of_lt hin) s with ⟨k, e, q1, q2, q3, q4, q5⟩ | ⟨q1, q2⟩
          · refine I.fb s k e q2 ((hwr k e q2 q3 (by omega)).1 q1) q3 (fun j e' hj hjl hjs => ?_) u (by rw [← q5]; exact hu')
            rcases Nat.lt_or_ge k j with h' | h'
            · rcases Nat.lt_trichotomy j i with h2 | h2 | h2
              · exact absurd hjs (q4 j e' h' h2 hj)
              · subst h2; rw [hno] at hjl; simp at hjl
              · rw [(hwr j e' hj hjs (by omega)).2 h2] at hjl; simp at hjl
            · exact h'
          · refine I.fa s (fun j e' hj hjl hjs => ?_) u (by rw [← q2]; exact hu')
            rcases Nat.lt_trichotomy j i with h2 | h2 | h2
            · exact q1 j e' h2 hj hjs
            · subst h2; rw [hno] at hjl; simp at hjl
            · rw [(hwr j e' hj hjs (by omega)).2 h2] at hjl; simp at hjl
        -- the value and the heap at the stage at hand
        have hval : ∃ t', xval P call d.x ((f i).keep d.rd) (h t) = some (v i, h t') ∧ t' ≤ ds.length ∧ (∀ (j : Nat) (e : XDop), ds[j]? = some e → e.kind = 2 → ((listed.setIfInBounds i true).getD j false = true ↔ j < t')) ∧
            (t' = 0 ∨ ∃ (j : Nat) (e : XDop), ds[j]? = some e ∧ e.kind = 2 ∧ t' = j + 1) := by
          have same : d.kind ≠ 2 → ∀ (j : Nat) (e : XDop), ds[j]? = some e → e.kind = 2 → ((listed.setIfInBounds i true).getD j false = true ↔ j < t) := by
            intro hk j e he hke
            have hji : j ≠ i := fun x => by subst x; rw [hd] at he; cases he; exact hk hke
            rw [getD_set_ne false (fun x => hji x.symm)]
            exact I.te j e he hke
          rcases kind_le d.x.op with kk | kk | kk
          · have hk2 : d.kind ≠ 2 := by rw [hkind, kk]; simp
            exact ⟨t, (xval_pure kk r1 (h t)).2, I.tn, same hk2, I.ts⟩
          · have hk1 : d.kind = 1 := by rw [hkind, kk]
            have hk2 : d.kind ≠ 2 := by rw [hk1]; simp
            refine ⟨t, ?_, I.tn, same hk2, I.ts⟩
            by_cases hown : ownSt ks i t = true
            · -- no effect between
              unfold ownSt at hown
              simp only [Bool.and_eq_true, Nat.ble_eq] at hown
              have : h i = h t := hconst i t hown.1 (Nat.le_of_lt hin) fun k e a1 a2 he => by
                have := List.all_eq_true.1 hown.2 k (List.mem_range.2 a2)
                simp only [Bool.or_eq_true] at this
                rcases this with h' | h'
                · have := natlt h'; omega
                · intro hke
                  obtain ⟨_, _, _, _, _, g⟩ := hds k e he
                  rw [g, hke] at h'; simp at h'
              rw [← this]
              have hrd := xval_read kk r1
              rw [hrd] at r1; exact r1
            · have hmem : t ∈ stabList ms ks i := by
                unfold stabList
                rw [List.mem_filter]
                constructor
                · unfold stages
                  rcases I.ts with rfl | ⟨j, e, he, hke, rfl⟩
                  · simp
                  · refine List.mem_cons_of_mem _ (List.mem_map.2 ⟨j, List.mem_filter.2 ⟨List.mem_range.2 ?_, ?_⟩, rfl⟩)
                    · rw [hkl]; exact (List.getElem?_eq_some_iff.1 he).1
                    · obtain ⟨_, _, _, _, _, g⟩ := hds j e he
                      rw [g, hke]; rfl
                · simp only [Bool.and_eq_true, List.all_eq_true, List.mem_range]
                  refine ⟨by simpa using hown, fun j hj => ?_⟩
                  obtain ⟨e, he, hke⟩ := hks j (by rw [← hkl]; exact hj)
                  rw [hke]
                  by_cases hk2' : e.kind = 2
                  · simp only [hk2', Bool.or_eq_true, Bool.and_eq_true, Bool.not_eq_true']
                    right
                    constructor
                    · cases hb : (ms.getD i 0).testBit j
                      · exact .inl rfl
                      · right
                        have hexj := mask_closed hdep (fun k => listed.getD k false = true) I.closed i o ho hedge j hb
                        have := (I.te j e he hk2').1 hexj
                        simp [Nat.blt]; omega
                    · cases hb : (ms.getD j 0).testBit i
                      · exact .inl rfl
                      · right
                        cases hbl : Nat.blt j t
                        · rfl
                        · exfalso
                          have hexj := (I.te j e he hk2').2 (natlt hbl)
                          have hjn : j < ops.size := by rw [← hlen, ← hkl]; exact hj
                          have := mask_closed hdep (fun k => listed.getD k false = true) I.closed j _ (Array.getElem?_eq_getElem hjn) (I.closed j _ hexj (Array.getElem?_eq_getElem hjn)) i hb
                          rw [hno] at this; simp at this
                  · have : Nat.beq e.kind 2 = false := by rw [Tr.beq_eq]; simp [hk2']
                    rw [this]; simp
              have hst2 : d.stab = stabList ms ks i := by rw [hstb, hk1]; rfl
              have hne : d.stab ≠ [] := by rw [hst2]; intro x; rw [x] at hmem; cases hmem
              have hso := List.all_eq_true.1 hstab _ (r3 hne)
              unfold stabOk at hso
              have := List.all_eq_true.1 hso t (by simp only [hst2]; exact hmem)
              simp only at this
              split at this
              · rename_i Ht hHt
                have hHt' : Ht = h t := by
                  rcases t6 _ (heapAt_mem _ _ _ hHt) with hp | ⟨k, e, _, _, hp⟩
                  · simp only [List.mem_singleton, Prod.mk.injEq] at hp
                    rw [hp.2, hp.1, ← t2]
                  · simp only [Prod.mk.injEq] at hp
                    rw [hp.2, hp.1]
                subst hHt'
                split at this
                · rename_i rr hrr
                  have hv := veq_eq this
                  have h2 := xval_read kk hrr
                  rw [hrr, hv, ← h2]
                · simp at this
              · simp at this
          · have hk2 : d.kind = 2 := by rw [hkind, kk]
            have hbt : ∀ (j : Nat) (e : XDop), ds[j]? = some e → e.kind = 2 → j ≠ i → (j < i → listed.getD j false = true) ∧ (i < j → listed.getD j false = false) := fun j e he hke hji =>
              bit j ((pairOk_spec hpair hd he (fun x => hji x.symm)).1 hk2 hke) hji
            have hti : t ≤ i := by
              rcases I.ts with rfl | ⟨j, e, he, hke, rfl⟩
              · exact Nat.zero_le _
              · have hexj := (I.te j e he hke).2 (by omega)
                have hji : j ≠ i := fun x => by subst x; rw [hno] at hexj; simp at hexj
                rcases Nat.lt_or_ge i j with h' | h'
                · rw [(hbt j e he hke hji).2 h'] at hexj; simp at hexj
                · omega
            have hhi : h i = h t := hconst i t hti (Nat.le_of_lt hin) fun k e a1 a2 he hke => by
              have := (I.te k e he hke).1 ((hbt k e he hke (by omega)).1 a2)
              omega
            refine ⟨i + 1, by rw [← hhi]; exact r1, hin, fun j e he hke => ?_, .inr ⟨i, d, hd, hk2, rfl⟩⟩
            by_cases hji : j = i
            · subst hji
              simp [hil]
            · rw [getD_set_ne false (fun x => hji x.symm)]
              rcases Nat.lt_or_ge j i with h' | h'
              · exact ⟨fun _ => by omega, fun _ => (hbt j e he hke hji).1 h'⟩
              · exact ⟨fun hx => by rw [(hbt j e he hke hji).2 (by omega)] at hx; simp at hx, fun hx => by omega⟩
        obtain ⟨t', hxv, htn, hte, hts⟩ := hval
        refine wpOp_mono ?_ (xval_wpOp hcall ho hco hxv I.hr hfr Q)
        rintro a' w' ⟨m', v', rfl, k1, k2, k3⟩
        refine ih (listed.setIfInBounds i true) _ w' m' t' ?_ ?_
        · rw [← dd1]
          have hslot : ∀ s, d.x.dst ≠ some s → (a.put d.x.dst v').tmps[s]? = a.tmps[s]? := by
            intro s hs
            cases hdd : d.x.dst with
            | none => rfl
            | some k =>
              rw [hdd] at hs
              simp only [Act.put]
              rw [Array.getElem?_setIfInBounds_ne (fun x => hs (by rw [x]))]
          refine { hr := k1, fut := I.fut.trans k2, df := by rw [put_defers]; exact I.df, sz := by rw [put_size]; exact I.sz, lsz := by simpa using I.lsz, closed := ?_, tn := htn, te := hte, ts := hts, fa := ?_, fb := ?_ }
          · intro k ok hk hok e he hbe
            by_cases hki : k = i
            · subst hki
              rw [ho] at hok; cases hok
              exact getD_set_true (hedge e he hbe)
            · rw [getD_set_ne false (fun x => hki x.symm)] at hk
              exact getD_set_true (I.closed k ok hk hok e he hbe)
          · intro s hs u hu
            have hsi : d.x.dst ≠ some s := hs i d hd (by simp [hil])
            rw [hslot s hsi]
            obtain ⟨v', g1, g2⟩ := I.fa s (fun j e hj hjl => hs j e hj (getD_set_true hjl)) u hu
            exact ⟨v', g1, g2.mono k2.ext⟩
          · intro s j e hj hjl hes hmax u hu
            by_cases hsi : d.x.dst = some s
            · -- written now: it is the last one
              have hji : j = i := by
                by_cases hne : j = i
                · exact hne
                · exfalso
                  have hjl' : listed.getD j false = true := by rwa [getD_set_ne false (fun x => hne x.symm)] at hjl
                  have hb := bit j (((pairOk_spec hpair hd hj (fun x => hne x.symm)).2 s hes).2 hsi) hne
                  have := hmax i d hd (by simp [hil]) hsi
                  rw [hb.2 (by omega)] at hjl'; simp at hjl'
              subst hji
              rw [hd] at hj; cases hj
              rw [r2, Fr.get_put?, if_pos hsi] at hu
              cases hu
              refine ⟨v', ?_, k3⟩
              rw [hsi]
              have hsN : s < a.tmps.size := Nat.lt_of_lt_of_le (dd2 s (by rw [← dd1]; exact hsi)) I.sz
              simp [Act.put, hsN]
            · have hji : j ≠ i := fun x => by subst x; rw [hd] at hj; cases hj; exact hsi hes
              rw [hslot s hsi]
              obtain ⟨v', g1, g2⟩ := I.fb s j e hj (by rwa [getD_set_ne false (fun x => hji x.symm)] at hjl) hes (fun k ek hk hkl hks => hmax k ek hk (getD_set_true hkl) hks) u hu
              exact ⟨v', g1, g2.mono k2.ext⟩
        · rw [Array.toList_setIfInBounds, List.count_set (by simpa using hil)]
          have : listed.toList[i]'(by simpa using hil) = false := by
            rw [getD_lt hil] at hno; simpa using hno
          rw [this, hcnt]; simp
  refine main ops.size _ a0 w0 m0 0 ?_ (by simp)
  refine { hr := by rw [t2]; exact hst.hr, fut := by rw [t2]; exact .refl m0 H w0, df := hst.df, sz := hst.sz, lsz := by simp [hlen], closed := ?_, tn := Nat.zero_le _, te := ?_, ts := .inl rfl, fa := ?_, fb := ?_ }
  · intro k o hk
    exfalso
    by_cases hks : k < ops.size
    · simp [Array.getD, hks] at hk
    · simp [Array.getD, hks] at hk
  · intro j d hd _
    constructor
    · intro hk
      by_cases hks : j < ops.size
      · simp [Array.getD, hks] at hk
      · simp [Array.getD, hks] at hk
    · intro hx; omega
  · intro s _ u hu
    rw [t1] at hu
    exact hst.fr s u hu
  · intro s i d _ hk
    exfalso
    by_cases hks : i < ops.size
    · simp [Array.getD, hks] at hk
    · simp [Array.getD, hks] at hk

end Go.Det
