/- What runs of the program's functions compute, on a heap of the run's own, and that the machine does what such a run says: the conditions stand in each theorem. -/
import Derived.Test.YtnjjnnfpnjjccaaGreatDoorCbM5
set_option linter.unusedSimpArgs false
set_option linter.unusedVariables false
namespace Go.Proofs.YtnjjnnfpnjjccaaGreatDoor.D
open Go Go.Det
variable {L : List (List Int)} {F : Nat -> Option PF}
theorem yfg (k : Nat) (h : k < 32) : (slots L).drop k = slt L k :: (slots L).drop (k + 1) := yem 32 k _ h
theorem ygE (k : Nat) (h : 32 <= k) : (slots L).drop k = [] := List.drop_eq_nil_of_le (by simp [slots]; omega)
theorem yok : z32.getD 0 0 = 0 := rfl
theorem yol : z32.any (fun x => x != 0) = false := by decide
theorem Rep.ent0 (h : Rep L F) {i : Nat} {p : PF} (hi : i < 32) (hp : F i = some p) : slt L i = p.ent /\ (slt L i).getD 0 0 ≠ 0 /\ nameB (slt L i) = p.nm /\ okName p.nm = true /\ endsB (slt L i) = true := by
 obtain ⟨h1, h2⟩ := h.fil i p hi hp
 refine ⟨h2, ?_, ?_, h1.nm, ?_⟩
 ·rw [h2]; exact ymK _ _ _ h1.nm
 ·rw [h2]; exact yla _ _ _ h1.nm
 ·rw [h2]; exact ynW _ _ _ h1.nm
theorem Rep.zero0 (h : Rep L F) {i : Nat} (hi : i < 32) (hp : F i = none) : (slt L i).getD 0 0 = 0 := by rw [h.zer i hi hp]; rfl
theorem ymO (seen : List (List Int)) (b : List Int) (r : List (List Int)) : dirP seen (b :: r) = if b.getD 0 0 = 0 then (if b.any (fun x => x != 0) then 3 else dirP seen r) else if !okName (nameB b) || !endsB b then 15 else if nameB b ∈ seen then 5 else dirP (seen ++ [nameB b]) r := rfl
theorem yoH (h : Rep L F) : ∀ (r k : Nat) (seen : List (List Int)), k + r = 32 -> (∀ n ∈ seen, ∃ i p, i < k /\ F i = some p /\ n = p.nm) -> dirP seen ((slots L).drop k) = 0 := by
 intro r
 induction r with
 | zero =>
  intro k seen hk _
  rw [ygE k (by omega)]; rfl
 | succ r ih =>
  intro k seen hk hs
  rw [yfg k (by omega), ymO]
  cases hF : F k with
  | none =>
   have hz := h.zer k (by omega) hF
   rw [hz, if_pos yok, yol, if_neg (by simp)]
   exact ih (k + 1) seen (by omega) fun n hn => let ⟨i, p, a, b, c⟩ := hs n hn; ⟨i, p, by omega, b, c⟩
  | some p =>
   obtain ⟨_, e2, e3, e4, e5⟩ := h.ent0 (by omega : k < 32) hF
   rw [if_neg e2, e3, e4, e5]
   have hn : p.nm ∉ seen := fun hm => by
    obtain ⟨i, q, a, b, c⟩ := hs _ hm
    have := h.dnm i k q p (by omega) (by omega) b hF c.symm
    omega
   rw [if_neg (by simp), if_neg hn]
   refine ih (k + 1) _ (by omega) fun n hm => ?_
   rcases List.mem_append.1 hm with hm | hm
   ·obtain ⟨i, q, a, b, c⟩ := hs n hm
    exact ⟨i, q, by omega, b, c⟩
   ·exact ⟨k, p, by omega, hF, List.mem_singleton.1 hm⟩
theorem yoE (h : Rep L F) (k : Nat) (hk : k < 256) : tbad (L.length : Int) (k : Int) (tb L k) = false := by
 have h10 := h.h10
 by_cases hf : k < 10 \/ L.length <= k
 ·rw [h.fix k hk hf]
  unfold tbad
  have e : (decide ((k : Int) < 10) || decide ((k : Int) >= (L.length : Int))) = true := by
   rcases hf with h1 | h1
   ·rw [decide_eq_true (by omega : (k : Int) < 10)]; rfl
   ·rw [decide_eq_true (by omega : (k : Int) >= (L.length : Int))]; simp
  rw [e]; simp
 ·have e : (decide ((k : Int) < 10) || decide ((k : Int) >= (L.length : Int))) = false := by
   rw [decide_eq_false (by omega : ¬ (k : Int) < 10), decide_eq_false (by omega : ¬ (k : Int) >= (L.length : Int))]; rfl
  unfold tbad
  rw [e]
  by_cases hc : ∃ i p, i < 32 /\ F i = some p /\ k ∈ p.ch
  ·obtain ⟨i, p, hi, hp, hkc⟩ := hc
   obtain ⟨h1, _⟩ := h.fil i p hi hp
   obtain ⟨j, hj⟩ := List.getElem?_of_mem hkc
   have ht := (h1.lnk j k hj).1
   rw [ht]
   rcases Nat.lt_or_ge (j + 1) p.ch.length with hl | hl
   ·have hm : p.ch.getD (j + 1) 254 ∈ p.ch := by rw [yaa (List.getElem?_eq_getElem hl)]; exact List.getElem_mem hl
    have hr := h1.rng _ hm
    generalize p.ch.getD (j + 1) 254 = d at *
    have e1 : (((d : Nat) : Int) == 253) = false := by simp; have := h.h240; omega
    rw [e1, decide_eq_false (by omega : ¬ ((d : Nat) : Int) < 10), decide_eq_false (by omega : ¬ ((d : Nat) : Int) >= (L.length : Int))]
    simp
   ·have : p.ch.getD (j + 1) 254 = 254 := by rw [List.getD_eq_getElem?_getD, List.getElem?_eq_none hl]; rfl
    rw [this]; simp
  ·have := h.fre k (by omega) (by omega) fun i p hi hp hm => hc ⟨i, p, hi, hp, hm⟩
   rw [this]; simp
theorem ynp (h : Rep L F) : formP L = 0 := by
 have h10 := h.h10
 unfold formP
 rw [if_neg (by omega)]
 have : (List.range 256).any (fun k => tbad (L.length : Int) (k : Int) (tb L k)) = false := by
  rw [List.any_eq_false]
  intro k hk
  rw [yoE h k (List.mem_range.1 hk)]; simp
 rw [this, if_neg (by simp)]
 exact yoH h 32 0 [] rfl (fun n hn => by simp at hn)
def Used (F : Nat -> Option PF) (k c : Nat) : Prop := ∃ i p, i < k /\ F i = some p /\ c ∈ p.ch
theorem yoD (h : Rep L F) : ∀ (r k : Nat) (us : List Bool), k + r = 32 -> us.length = L.length -> (∀ c, c < L.length -> (us.getD c false = true ↔ Used F k c)) -> ∃ us', useP L ((slots L).drop k) us = .inr us' /\ us'.length = L.length /\ ∀ c, c < L.length -> (us'.getD c false = true ↔ Used F 32 c) := by
 intro r
 induction r with
 | zero =>
  intro k us hk hl hu
  have : k = 32 := by omega
  subst this
  exact ⟨us, by rw [ygE 32 (by omega)]; rfl, hl, hu⟩
 | succ r ih =>
  intro k us hk hl hu
  rw [yfg k (by omega)]
  cases hF : F k with
  | none =>
   rw [yje _ _ _ _ (h.zero0 (by omega) hF)]
   refine ih (k + 1) us (by omega) hl fun c hc => (hu c hc).trans ⟨fun ⟨i, p, a, b⟩ => ⟨i, p, by omega, b⟩, fun ⟨i, p, a, b, d⟩ => ⟨i, p, ?_, b, d⟩⟩
   rcases Nat.lt_or_ge i k with h1 | h1
   ·exact h1
   ·have : i = k := by omega
    rw [this, hF] at b; cases b
  | some p =>
   obtain ⟨e1, e2, _⟩ := h.ent0 (by omega : k < 32) hF
   obtain ⟨h1, _⟩ := h.fil k p (by omega) hF
   have hfo := ymy h1 h.h240 us hl fun c hc => by
    cases hcc : us.getD c false with
    | false => rfl
    | true =>
     obtain ⟨i, q, a, b, d⟩ := (hu c (h1.rng c hc).2).1 hcc
     have := h.dch i k q p c (by omega) (by omega) b hF d hc
     omega
   rw [<- e1] at hfo
   rw [ykv _ _ _ _ e2 _ hfo]
   refine ih (k + 1) _ (by omega) (by rw [ynx]; exact hl) fun c hc => ?_
   rw [yny p.ch us c (by omega), Bool.or_eq_true, hu c hc, decide_eq_true_eq]
   constructor
   ·rintro (⟨i, q, a, b, d⟩ | hm)
    ·exact ⟨i, q, by omega, b, d⟩
    ·exact ⟨k, p, by omega, hF, hm⟩
   ·rintro ⟨i, q, a, b, d⟩
    rcases Nat.lt_or_ge i k with h2 | h2
    ·exact .inl ⟨i, q, h2, b, d⟩
    ·have : i = k := by omega
     rw [this, hF] at b; cases b
     exact .inr d
theorem ygI (h : Rep L F) : checkP L = 0 := by
 unfold checkP
 rw [ynp h, if_neg (by simp)]
 obtain ⟨us', h1, h2, h3⟩ := yoD h 32 0 (List.replicate L.length false) rfl (by simp) fun c hc => by
  have : (List.replicate L.length false).getD c false = false := yaa (by rw [List.getElem?_replicate, if_pos hc])
  rw [this]
  exact ⟨fun e => by simp at e, fun ⟨i, p, a, _⟩ => by omega⟩
 rw [List.drop_zero] at h1
 rw [h1]
 have : ((List.range L.length).drop 10).any (leftB L us') = false := by
  rw [List.any_eq_false]
  intro c hc
  obtain ⟨q, hq⟩ := List.getElem?_of_mem hc
  rw [List.getElem?_drop] at hq
  have hlt := (List.getElem?_eq_some_iff.1 hq).1
  rw [List.length_range] at hlt
  rw [List.getElem?_range hlt] at hq
  have hcq : 10 + q = c := Option.some.inj hq
  unfold leftB
  by_cases hu : us'.getD c false = true
  ·rw [hu]; simp
  ·have := h.fre c (by omega) (by omega) fun i p hi hp hm => hu ((h3 c (by omega)).2 ⟨i, p, hi, hp, hm⟩)
   rw [this]; simp
 simp only [this]
 rfl
theorem yn1 (dt : List Int) (j : Nat) : blkP dt (j + 1) = blkP (dt.drop 128) j := by
 unfold blkP
 rw [List.drop_drop, show 128 + 128 * j = 128 * (j + 1) by omega]
theorem yg6 : ∀ (n : Nat) (dt : List Int), need dt.length = n -> ((List.range n).flatMap (blkP dt)).take dt.length = dt
 | 0, dt, h => by
  have : dt.length = 0 := by unfold need at h; omega
  rw [List.eq_nil_of_length_eq_zero this]; rfl
 | n + 1, dt, h => by
  have hs : (List.range (n + 1)).flatMap (blkP dt) = blkP dt 0 ++ (List.range n).flatMap (blkP (dt.drop 128)) := by
   rw [List.range_succ_eq_map, List.flatMap_cons, List.flatMap_map]
   congr 1
   refine congrArg (fun f => List.flatMap f (List.range n)) (funext fun j => yn1 dt j)
  have h0 : blkP dt 0 = dt.take 128 ++ zs128.drop ((dt.take 128).length) := by
   unfold blkP spI
   simp
  rw [hs, h0]
  rcases Nat.le_total dt.length 128 with hle | hle
  ·rw [List.take_of_length_le hle, List.append_assoc, List.take_append_of_le_length (Nat.le_refl _), List.take_length]
  ·have hl : (dt.take 128).length = 128 := by rw [List.length_take]; omega
   have hz : zs128.drop 128 = [] := List.drop_eq_nil_of_le (by simp [zs128])
   rw [hl, hz, List.append_nil]
   have ih := yg6 n (dt.drop 128) (by rw [List.length_drop]; unfold need at h ⊢; omega)
   have : dt.length = 128 + (dt.drop 128).length := by rw [List.length_drop]; omega
   have e : (dt.take 128 ++ (List.range n).flatMap (blkP (dt.drop 128))).take dt.length = dt.take 128 ++ ((List.range n).flatMap (blkP (dt.drop 128))).take (dt.drop 128).length := by
    rw [List.take_append, hl, List.take_of_length_le (by omega : (dt.take 128).length <= dt.length), List.length_drop]
   rw [e, ih, List.take_append_drop]
theorem yoJ {p : PF} (h : PfOk L p) : readL L (p.ch.map fun c : Nat => (c : Int)) = (List.range p.ch.length).flatMap (blkP p.dt) := by
 have : ∀ (l : List Nat) (j : Nat), (∀ i c, l[i]? = some c -> L[c]? = some (blkP p.dt (j + i))) -> readL L (l.map fun c : Nat => (c : Int)) = (List.range l.length).flatMap fun i => blkP p.dt (j + i) := by
  intro l
  induction l with
  | nil => intro j _; rfl
  | cons c l ih =>
   intro j hl
   have h0 := hl 0 c rfl
   show L.getD ((c : Nat) : Int).toNat [] ++ readL L (l.map fun c : Nat => (c : Int)) = _
   rw [Int.toNat_natCast, yaa h0, ih (j + 1) fun i d hd => by
    have := hl (i + 1) d hd
    rw [show j + 1 + i = j + (i + 1) by omega]; exact this]
   rw [List.length_cons, List.range_succ_eq_map, List.flatMap_cons, List.flatMap_map]
   congr 1
   refine congrArg (fun f => List.flatMap f (List.range l.length)) (funext fun i => ?_)
   rw [show j + 1 + i = j + (i + 1) by omega]
 have := this p.ch 0 fun i c hc => by rw [Nat.zero_add]; exact (h.lnk i c hc).2
 rw [this]
 refine congrArg (fun f => List.flatMap f (List.range p.ch.length)) (funext fun i => ?_)
 rw [Nat.zero_add]
theorem rd_pf {p : PF} (h : PfOk L p) (hN : L.length <= 240) : rdP L p.ent = p.dt /\ GoodS L p.ent := by
 have hnl := (yaU h.nm).1
 have hs : sizeB p.ent = (p.dt.length : Int) := yk9 p.nm p.dt.length (p.ch.getD 0 254) hnl
 have hb : p.ch.length <= L.length := yeE h.nd fun c hc => (h.rng c hc).2
 have hfo := ymy h hN (List.replicate L.length false) (by simp) fun c hc => yaa (by rw [List.getElem?_replicate, if_pos (h.rng c hc).2])
 refine ⟨?_, _, _, hfo, fun i hi => ?_, by rw [List.length_map]; omega, ?_⟩
 ·unfold rdP
  rw [hfo]
  show (readL L (p.ch.map fun c : Nat => (c : Int))).take (sizeB p.ent).toNat = _
  rw [hs, Int.toNat_natCast, yoJ h, h.cl]
  exact yg6 _ p.dt rfl
 ·obtain ⟨c, hc, rfl⟩ := List.mem_map.1 hi
  have := h.rng c hc
  omega
 ·rw [hs, Int.toNat_natCast, List.length_map, h.cl]
  unfold need; omega
theorem yno (h : Rep L F) (k : Nat) (hk : k < 32) (hz : (slt L k).getD 0 0 ≠ 0) : GoodS L (slt L k) := by
 cases hF : F k with
 | none => exact absurd (h.zero0 hk hF) hz
 | some p =>
  obtain ⟨h1, h2⟩ := h.fil k p hk hF
  rw [h2]; exact (rd_pf h1 h.h240).2
def listF (F : Nat -> Option PF) : List (List Int × List Int) := (List.range 32).flatMap fun i => match F i with | some p => [(p.nm, p.dt)] | none => []
theorem yl3 (h : Rep L F) : filesP L = listF F := by
 unfold filesP slots listF
 rw [List.flatMap_map]
 have : ∀ l : List Nat, (∀ i ∈ l, i < 32) -> l.flatMap (fun i => fileP L (slt L i)) = l.flatMap fun i => match F i with | some p => [(p.nm, p.dt)] | none => [] := by
  intro l
  induction l with
  | nil => intro _; rfl
  | cons i l ih =>
   intro hl
   rw [List.flatMap_cons, List.flatMap_cons, ih fun j hj => hl j (by simp [hj])]
   congr 1
   have hi := hl i (by simp)
   unfold fileP
   cases hF : F i with
   | none => rw [if_pos (h.zero0 hi hF)]
   | some p =>
    obtain ⟨e1, e2, e3, _⟩ := h.ent0 hi hF
    rw [if_neg e2, e3, e1, (rd_pf (h.fil i p hi hF).1 h.h240).1]
 exact this _ fun i hi => List.mem_range.1 hi
theorem yjI (h : Rep L F) (s : List Int) (hs : ∀ i p, i < 32 -> F i = some p -> p.nm ≠ s) : findP s (slots L) 0 = -1 := by
 have : ∀ r k, k + r = 32 -> findP s ((slots L).drop k) k = -1 := by
  intro r
  induction r with
  | zero => intro k hk; rw [ygE k (by omega)]; rfl
  | succ r ih =>
   intro k hk
   rw [yfg k (by omega)]
   simp only [findP]
   rw [if_neg]
   ·exact ih (k + 1) (by omega)
   ·rintro ⟨h1, h2⟩
    cases hF : F k with
    | none => exact h1 (h.zero0 (by omega) hF)
    | some p =>
     obtain ⟨_, _, e3, _⟩ := h.ent0 (by omega : k < 32) hF
     rw [e3] at h2
     exact hs k p (by omega) hF h2
 have := this 32 0 rfl
 rwa [List.drop_zero] at this
end Go.Proofs.YtnjjnnfpnjjccaaGreatDoor.D
set_option linter.unusedSimpArgs false
set_option linter.unusedVariables false
namespace Go.Proofs.YtnjjnnfpnjjccaaGreatDoor.D
open Go Go.Det
variable {L : List (List Int)} {F : Nat -> Option PF}
def upd (F : Nat -> Option PF) (k : Nat) (o : Option PF) (i : Nat) : Option PF := if i = k then o else F i
theorem ygB (F : Nat -> Option PF) (k : Nat) (o : Option PF) : upd F k o k = o := if_pos rfl
theorem yeW (F : Nat -> Option PF) {k i : Nat} (o : Option PF) (h : i ≠ k) : upd F k o i = F i := if_neg h
theorem ypE (L : List (List Int)) (k : Nat) (ws : List Int) (i : Nat) (hi : i < 256) : tb (slS L k ws) i = tb L i := by
 unfold tb slS
 have : (L.set (2 + k / 4) (spI (L.getD (2 + k / 4) []) (32 * (k % 4)) ws)).getD (i / 128) [] = L.getD (i / 128) [] := by
  simp only [List.getD_eq_getElem?_getD]
  rw [List.getElem?_set_ne (by omega)]
 rw [this]
theorem yiD (L : List (List Int)) (k j : Nat) (c : Int) (i : Nat) (hi : i < 256) : tb (setB L k j c) i = tb L i := by
 unfold tb setB
 have : (L.set (2 + k / 4) ((L.getD (2 + k / 4) []).set (32 * (k % 4) + j) c)).getD (i / 128) [] = L.getD (i / 128) [] := by
  simp only [List.getD_eq_getElem?_getD]
  rw [List.getElem?_set_ne (by omega)]
 rw [this]
theorem ypF (L : List (List Int)) (q : Nat) (hq : 2 <= q) (b : List Int) (i : Nat) (hi : i < 256) : tb (L.set q b) i = tb L i := by
 unfold tb
 have : (L.set q b).getD (i / 128) [] = L.getD (i / 128) [] := by
  simp only [List.getD_eq_getElem?_getD]
  rw [List.getElem?_set_ne (by omega)]
 rw [this]
theorem ykI (L : List (List Int)) (c : Nat) (hc : c < 256) (v : Int) (i : Nat) : slt (setT L c v) i = slt L i := by
 unfold slt setT
 have : (L.set (c / 128) ((L.getD (c / 128) []).set (c % 128) v)).getD (2 + i / 4) [] = L.getD (2 + i / 4) [] := by
  simp only [List.getD_eq_getElem?_getD]
  rw [List.getElem?_set_ne (by omega)]
 rw [this]
theorem yox (L : List (List Int)) (q : Nat) (hq : 10 <= q) (b : List Int) (i : Nat) (hi : i < 32) : slt (L.set q b) i = slt L i := by
 unfold slt
 have : (L.set q b).getD (2 + i / 4) [] = L.getD (2 + i / 4) [] := by
  simp only [List.getD_eq_getElem?_getD]
  rw [List.getElem?_set_ne (by omega)]
 rw [this]
theorem yfS (L : List (List Int)) (c : Nat) (hc : c < 256) (v : Int) (i : Nat) (hi : 2 <= i) : (setT L c v)[i]? = L[i]? := by
 unfold setT
 rw [List.getElem?_set_ne (by omega)]
theorem yow (L : List (List Int)) (k : Nat) (hk : k < 32) (ws : List Int) (i : Nat) (hi : 10 <= i) : (slS L k ws)[i]? = L[i]? := by
 unfold slS
 rw [List.getElem?_set_ne (by omega)]
theorem yfT (L : List (List Int)) (k : Nat) (hk : k < 32) (j : Nat) (c : Int) (i : Nat) (hi : 10 <= i) : (setB L k j c)[i]? = L[i]? := by
 unfold setB
 rw [List.getElem?_set_ne (by omega)]
theorem ydP (s : List Int) (o : Nat) (i : Nat) : ((s.drop o).take 32)[i]? = if i < 32 then s[o + i]? else none := by
 rw [List.getElem?_take, List.getElem?_drop]
theorem yiA (s : List Int) (o : Nat) (ws : List Int) (h : o + ws.length <= s.length) (i : Nat) : (spI s o ws)[i]? = if i < o then s[i]? else if i < o + ws.length then ws[i - o]? else s[i]? := by
 unfold spI
 have h1 : (s.take o).length = o := by rw [List.length_take]; omega
 rw [List.append_assoc, List.getElem?_append, h1]
 by_cases c1 : i < o
 ·rw [if_pos c1, if_pos c1, List.getElem?_take, if_pos c1]
 ·rw [if_neg c1, if_neg c1, List.getElem?_append]
  by_cases c2 : i < o + ws.length
  ·rw [if_pos (by omega), if_pos c2]
  ·rw [if_neg (by omega), if_neg c2, List.getElem?_drop]
   congr 1; omega
theorem ylZ (h8 : ∀ l ∈ L, SecOk l) (k : Nat) (hk : 2 + k / 4 < L.length) (ws : List Int) (hw : ws.length <= 32) (i : Nat) : slt (slS L k ws) i = if i = k then spI (slt L k) 0 ws else slt L i := by
 have hs := (h8 _ (List.getElem_mem hk)).1
 have hg : L.getD (2 + k / 4) [] = L[2 + k / 4]'hk := yaa (List.getElem?_eq_getElem hk)
 have hm := Nat.mod_lt k (by omega : 0 < 4)
 by_cases hd : i / 4 = k / 4
 ·have e : (slS L k ws).getD (2 + i / 4) [] = spI (L[2 + k / 4]'hk) (32 * (k % 4)) ws := by
   unfold slS
   rw [hd, hg]
   exact yaa (by rw [List.getElem?_set, if_pos rfl, if_pos hk])
  by_cases hik : i = k
  ·rw [if_pos hik]
   subst hik
   have e1 : slt (slS L i ws) i = ((spI (L[2 + i / 4]'hk) (32 * (i % 4)) ws).drop (32 * (i % 4))).take 32 := by unfold slt; rw [e]
   have e2 : slt L i = ((L[2 + i / 4]'hk).drop (32 * (i % 4))).take 32 := by unfold slt; rw [hg]
   have hl2 : (slt L i).length = 32 := by rw [e2, List.length_take, List.length_drop]; omega
   refine List.ext_getElem? fun j => ?_
   rw [e1, ydP, yiA _ _ _ (by omega), yiA _ _ _ (by rw [hl2]; omega)]
   by_cases c1 : j < 32
   ·rw [if_pos c1, if_neg (by omega), if_neg (by omega : ¬ j < 0)]
    by_cases c2 : j < ws.length
    ·rw [if_pos (by omega), if_pos (by omega)]
     congr 1; omega
    ·rw [if_neg (by omega), if_neg (by omega), e2, ydP, if_pos c1]
   ·rw [if_neg c1, if_neg (by omega : ¬ j < 0), if_neg (by omega), List.getElem?_eq_none (by omega)]
  ·rw [if_neg hik]
   have e2 : slt L i = ((L[2 + k / 4]'hk).drop (32 * (i % 4))).take 32 := by unfold slt; rw [hd, hg]
   refine List.ext_getElem? fun j => ?_
   unfold slt
   rw [e, ydP, yiA _ _ _ (by omega), show (L.getD (2 + i / 4) []) = L[2 + k / 4]'hk by rw [hd, hg], ydP]
   by_cases c1 : j < 32
   ·rw [if_pos c1, if_pos c1]
    by_cases c2 : 32 * (i % 4) + j < 32 * (k % 4)
    ·rw [if_pos c2]
    ·rw [if_neg c2, if_neg (by omega)]
   ·rw [if_neg c1, if_neg c1]
 ·rw [if_neg (by intro e; rw [e] at hd; exact hd rfl)]
  unfold slt slS
  have : (L.set (2 + k / 4) (spI (L.getD (2 + k / 4) []) (32 * (k % 4)) ws)).getD (2 + i / 4) [] = L.getD (2 + i / 4) [] := by
   simp only [List.getD_eq_getElem?_getD]
   rw [List.getElem?_set_ne (by omega)]
  rw [this]
theorem yei (h8 : ∀ l ∈ L, SecOk l) (k j : Nat) (hk : 2 + k / 4 < L.length) (hj : j < 32) (c : Int) (i : Nat) : slt (setB L k j c) i = if i = k then (slt L k).set j c else slt L i := by
 have hs := (h8 _ (List.getElem_mem hk)).1
 have hg : L.getD (2 + k / 4) [] = L[2 + k / 4]'hk := yaa (List.getElem?_eq_getElem hk)
 have hm := Nat.mod_lt k (by omega : 0 < 4)
 by_cases hd : i / 4 = k / 4
 ·have e : (setB L k j c).getD (2 + i / 4) [] = (L[2 + k / 4]'hk).set (32 * (k % 4) + j) c := by
   unfold setB
   rw [hd, hg]
   exact yaa (by rw [List.getElem?_set, if_pos rfl, if_pos hk])
  refine List.ext_getElem? fun q => ?_
  have e1 : slt (setB L k j c) i = (((L[2 + k / 4]'hk).set (32 * (k % 4) + j) c).drop (32 * (i % 4))).take 32 := by unfold slt; rw [e]
  have e2 : ∀ i, i / 4 = k / 4 -> slt L i = ((L[2 + k / 4]'hk).drop (32 * (i % 4))).take 32 := fun i hi => by unfold slt; rw [hi, hg]
  have hl2 : (slt L k).length = 32 := by rw [e2 k rfl, List.length_take, List.length_drop]; omega
  rw [e1, ydP]
  by_cases hik : i = k
  ·rw [if_pos hik]
   subst hik
   rw [List.getElem?_set, List.getElem?_set, hl2]
   by_cases c1 : q < 32
   ·rw [if_pos c1]
    by_cases c2 : j = q
    ·rw [if_pos (by omega), if_pos (by omega), if_pos c2, if_pos (by omega)]
    ·rw [if_neg (by omega), if_neg c2, e2 i rfl, ydP, if_pos c1]
   ·rw [if_neg c1, if_neg (by omega), List.getElem?_eq_none (by omega)]
  ·rw [if_neg hik, e2 i hd, ydP]
   by_cases c1 : q < 32
   ·rw [if_pos c1, if_pos c1, List.getElem?_set_ne (by omega)]
   ·rw [if_neg c1, if_neg c1]
 ·rw [if_neg (by intro e; rw [e] at hd; exact hd rfl)]
  unfold slt setB
  have : (L.set (2 + k / 4) ((L.getD (2 + k / 4) []).set (32 * (k % 4) + j) c)).getD (2 + i / 4) [] = L.getD (2 + i / 4) [] := by
   simp only [List.getD_eq_getElem?_getD]
   rw [List.getElem?_set_ne (by omega)]
  rw [this]
theorem PfOk.mv {L L' : List (List Int)} {p : PF} (h : PfOk L p) (hl : L'.length = L.length) (ht : ∀ c ∈ p.ch, tb L' c = tb L c) (hs : ∀ c ∈ p.ch, L'[c]? = L[c]?) : PfOk L' p :=
 ⟨h.nm, h.n8, h.d8, h.dl, h.cl, h.nd, fun c hc => by rw [hl]; exact h.rng c hc, fun j c hj => by
  have hc := List.mem_of_getElem? hj
  rw [ht c hc, hs c hc]
  exact h.lnk j c hj⟩
end Go.Proofs.YtnjjnnfpnjjccaaGreatDoor.D
set_option linter.unusedSimpArgs false
set_option linter.unusedVariables false
namespace Go.Proofs.YtnjjnnfpnjjccaaGreatDoor.D
open Go Go.Det
variable {L : List (List Int)} {F : Nat -> Option PF}
def freeN (L : List (List Int)) (n : Nat) : List Nat := ((List.range n).drop 10).filter fun i => tb L i == 255
theorem ymv (L : List (List Int)) (n : Nat) : freeP L n = (freeN L n).map fun i : Nat => (i : Int) := rfl
theorem ygZ (L : List (List Int)) (n : Nat) : (freeN L n).Nodup := (List.nodup_range.sublist (List.drop_sublist 10 _)).filter _
theorem yg0 (L : List (List Int)) (n c : Nat) : c ∈ freeN L n ↔ 10 <= c /\ c < n /\ tb L c = 255 := by
 unfold freeN
 rw [List.mem_filter]
 have : c ∈ (List.range n).drop 10 ↔ 10 <= c /\ c < n := by
  constructor
  ·intro h
   obtain ⟨q, hq⟩ := List.getElem?_of_mem h
   rw [List.getElem?_drop] at hq
   have hlt := (List.getElem?_eq_some_iff.1 hq).1
   rw [List.length_range] at hlt
   rw [List.getElem?_range hlt] at hq
   have : 10 + q = c := Option.some.inj hq
   omega
  ·rintro ⟨h1, h2⟩
   rw [List.mem_iff_getElem?]
   exact ⟨c - 10, by rw [List.getElem?_drop, List.getElem?_range (by omega)]; congr 1; omega⟩
 rw [this]
 constructor
 ·rintro ⟨⟨a, b⟩, c⟩; exact ⟨a, b, by simpa using c⟩
 ·rintro ⟨a, b, c⟩; exact ⟨⟨a, b⟩, by simpa using c⟩
theorem ye3 (L : List (List Int)) : roomP L = (freeN L L.length).length := by
 unfold roomP freeN
 rw [List.countP_eq_length_filter]
theorem ynV (nm : List Int) (n : Nat) (h : nm.length <= 20) : (((spI z32 0 nm).set 20 254).set 21 ((n / 256 : Nat) : Int)).set 22 ((n % 256 : Nat) : Int) = entB nm n 254 := by
 have e : spI z32 0 nm = nm ++ List.replicate (20 - nm.length) 0 ++ ([0, 0, 0] ++ List.replicate 9 0) := by
  unfold spI z32
  rw [List.take_zero, List.nil_append, Nat.zero_add, List.drop_replicate, List.append_assoc]
  congr 1
  have : ([0, 0, 0] ++ List.replicate 9 0 : List Int) = List.replicate 12 0 := rfl
  rw [this, List.replicate_append_replicate]
  congr 1; omega
 have hl : (nm ++ List.replicate (20 - nm.length) (0 : Int)).length = 20 := by simp; omega
 rw [e]
 unfold entB
 generalize nm ++ List.replicate (20 - nm.length) (0 : Int) = a at *
 rw [List.set_append_right _ _ (by omega), List.set_append_right _ _ (by omega), List.set_append_right _ _ (by omega), hl, List.append_assoc]
 rfl
theorem yiW (nm : List Int) (n f g : Nat) (h : nm.length <= 20) : (entB nm n f).set 20 ((g : Nat) : Int) = entB nm n g := by
 have hl : (nm ++ List.replicate (20 - nm.length) (0 : Int)).length = 20 := by simp; omega
 unfold entB
 generalize nm ++ List.replicate (20 - nm.length) (0 : Int) = a at *
 rw [List.append_assoc, List.append_assoc, List.set_append_right _ _ (by omega), hl]
 rfl
theorem yeX {ch : List Nat} {k c x : Nat} (hx : ch[k]? = some x) : c ∈ ch.take (k + 1) ↔ c ∈ ch.take k \/ c = x := by
 rw [yal _ _ _ hx, List.mem_append, List.mem_singleton]
structure StepInv (at' : Nat) (data : List Int) (ch : List Nat) (Le Lk : List (List Int)) (k : Nat) : Prop where
 len : Lk.length = Le.length
 ok : ∀ m ∈ Lk, SecOk m
 lnk : ∀ j c, j < k -> ch[j]? = some c -> tb Lk c = if j + 1 < k then ((ch.getD (j + 1) 254 : Nat) : Int) else 254
 oth : ∀ c, c < 256 -> c ∉ ch.take k -> tb Lk c = tb Le c
 ent : ∀ i, i < 32 -> slt Lk i = if i = at' /\ 0 < k then (slt Le at').set 20 ((ch.getD 0 254 : Nat) : Int) else slt Le i
 sec : ∀ j c, j < k -> ch[j]? = some c -> Lk[c]? = some (blkP data j)
 ose : ∀ c, 10 <= c -> c ∉ ch.take k -> Lk[c]? = Le[c]?
theorem ylT (at' : Nat) (hat : at' < 32) (data : List Int) (hd : B8 data) (ch : List Nat) (hnd : ch.Nodup) (Le : List (List Int)) (h10 : 10 < Le.length) (h240 : Le.length <= 240) (h8 : ∀ m ∈ Le, SecOk m) (hr : ∀ c ∈ ch, 10 <= c /\ c < Le.length) :
  ∀ k, k <= ch.length -> StepInv at' data ch Le (stepsP at' data (ch.map fun c : Nat => (c : Int)) Le k) k := by
 intro k
 induction k with
 | zero => intro _; exact ⟨rfl, h8, fun j c hj => by omega, fun c _ _ => rfl, fun i _ => by rw [if_neg (by omega)]; rfl, fun j c hj => by omega, fun c _ _ => rfl⟩
 | succ k ih =>
  intro hk
  have I := ih (by omega)
  obtain ⟨x, hx⟩ : ∃ x, ch[k]? = some x := ⟨_, List.getElem?_eq_getElem (by omega)⟩
  have hxr := hr x (List.mem_of_getElem? hx)
  have hok := ykD at' data (ch.map fun c : Nat => (c : Int)) hd (stepsP at' data (ch.map fun c : Nat => (c : Int)) Le k) (by rw [I.len]; exact h10) (by rw [I.len]; exact h240) hat (fun i hi => by
   obtain ⟨c, hc, rfl⟩ := List.mem_map.1 hi
   have := hr c hc
   rw [I.len]; omega) k (by rw [List.length_map]; omega) I.ok
  show StepInv at' data ch Le (stepP at' data (ch.map fun c : Nat => (c : Int)) (stepsP at' data (ch.map fun c : Nat => (c : Int)) Le k) k) (k + 1)
  generalize hLk : stepsP at' data (ch.map fun c : Nat => (c : Int)) Le k = Lk at *
  have hgk : (ch.map fun c : Nat => (c : Int)).getD k 0 = (x : Int) := yaa (by rw [List.getElem?_map, hx]; rfl)
  have hIlen := I.len
  obtain ⟨y, hy⟩ : ∃ y : Nat, (k = 0 -> y = 0) /\ (0 < k -> ch[k - 1]? = some y) := by
   rcases Nat.eq_zero_or_pos k with h0 | h0
   ·exact ⟨0, fun _ => rfl, fun h => by omega⟩
   ·exact ⟨ch[k - 1]'(by omega), fun h => by omega, fun _ => List.getElem?_eq_getElem _⟩
  have hyr : 0 < k -> 10 <= y /\ y < Le.length := fun h => hr y (List.mem_of_getElem? (hy.2 h))
  have hxy : 0 < k -> y ≠ x := fun h e => by
   have h1 := hy.2 h
   rw [e] at h1
   have := (List.getElem?_inj (by omega : k < ch.length) hnd).1 (hx.trans h1.symm)
   omega
  have hP : stepP at' data (ch.map fun c : Nat => (c : Int)) Lk k = (setT (if k = 0 then setB Lk at' 20 (x : Int) else setT Lk y (x : Int)) x 254).set x (blkP data k) := by
   unfold stepP
   rw [hgk, Int.toNat_natCast]
   by_cases h0 : k = 0
   ·rw [if_pos h0, if_pos h0]
   ·have : (ch.map fun c : Nat => (c : Int)).getD (k - 1) 0 = (y : Int) := yaa (by rw [List.getElem?_map, hy.2 (by omega)]; rfl)
    rw [if_neg h0, if_neg h0, this, Int.toNat_natCast]
  have h8m : ∀ m ∈ (if k = 0 then setB Lk at' 20 (x : Int) else setT Lk y (x : Int)), SecOk m := by
   by_cases h0 : k = 0
   ·rw [if_pos h0]; exact ydr Lk at' 20 _ I.ok (by omega) (by omega) (by omega)
   ·have := hyr (by omega)
    rw [if_neg h0]; exact ygF Lk y _ I.ok (by omega) (by omega) (by omega)
  have hlm : (if k = 0 then setB Lk at' 20 (x : Int) else setT Lk y (x : Int)).length = Le.length := by
   split
   ·rw [ybn]; exact hIlen
   ·rw [ycJ]; exact hIlen
  have htb : ∀ c, c < 256 -> tb (stepP at' data (ch.map fun c : Nat => (c : Int)) Lk k) c = if c = x then 254 else if 0 < k /\ c = y then (x : Int) else tb Lk c := by
   intro c hc
   rw [hP, ypF _ x (by omega) _ c hc, yjV _ x 254 h8m (by rw [hlm]; omega) c]
   by_cases h1 : c = x
   ·rw [if_pos h1, if_pos h1]
   ·rw [if_neg h1, if_neg h1]
    by_cases h0 : k = 0
    ·rw [if_pos h0, yiD _ _ _ _ c hc, if_neg (by omega)]
    ·have := hyr (by omega)
     rw [if_neg h0, yjV Lk y _ I.ok (by omega) c]
     by_cases h2 : c = y
     ·rw [if_pos h2, if_pos ⟨by omega, h2⟩]
     ·rw [if_neg h2, if_neg (fun h => h2 h.2)]
  refine ⟨?_, hok, fun j c hj hc => ?_, fun c hc hno => ?_, fun i hi => ?_, fun j c hj hc => ?_, fun c hc hno => ?_⟩
  ·rw [yjj]; exact hIlen
  ·have hcr := hr c (List.mem_of_getElem? hc)
   rw [htb c (by omega)]
   by_cases hjk : j = k
   ·subst hjk
    rw [hx] at hc; cases hc
    rw [if_pos rfl, if_neg (by omega)]
   ·have hcx : c ≠ x := fun e => by
     subst e
     have := (List.getElem?_inj (by omega : k < ch.length) hnd).1 (hx.trans hc.symm)
     omega
    rw [if_neg hcx]
    by_cases hj1 : j + 1 = k
    ·have hcy : c = y := by
      have := hy.2 (by omega)
      rw [show k - 1 = j by omega, hc] at this
      exact Option.some.inj this
     rw [if_pos ⟨by omega, hcy⟩, if_pos (by omega), hj1, yaa hx]
    ·have hcy : ¬ (0 < k /\ c = y) := fun ⟨h0, e⟩ => by
      have h1 := hy.2 h0
      rw [<- e] at h1
      have := (List.getElem?_inj (by omega : j < ch.length) hnd).1 (hc.trans h1.symm)
      omega
     rw [if_neg hcy, I.lnk j c (by omega) hc, if_pos (by omega), if_pos (by omega)]
  ·rw [yeX hx] at hno
   have hny : ¬ (0 < k /\ c = y) := by
    rintro ⟨h0, e⟩
    refine hno (.inl ?_)
    rw [e, List.mem_iff_getElem?]
    exact ⟨k - 1, by rw [List.getElem?_take, if_pos (by omega)]; exact hy.2 h0⟩
   rw [htb c hc, if_neg (fun e => hno (.inr e)), if_neg hny]
   exact I.oth c hc fun h => hno (.inl h)
  ·rw [hP, yox _ x hxr.1 _ i hi, ykI _ x (by omega) 254 i]
   by_cases h0 : k = 0
   ·have h3 := I.ent i hi
    rw [if_neg (by omega)] at h3
    have h3a := I.ent at' hat
    rw [if_neg (by omega)] at h3a
    rw [if_pos h0, yei I.ok at' 20 (by omega) (by omega) _ i]
    by_cases hia : i = at'
    ·have hg0 : ch.getD 0 254 = x := by rw [h0] at hx; exact yaa hx
     rw [if_pos hia, if_pos ⟨hia, by omega⟩, h3a, hg0]
    ·rw [if_neg hia, if_neg (fun h => hia h.1), h3]
   ·have := hyr (by omega)
    rw [if_neg h0, ykI _ y (by omega) _ i, I.ent i hi]
    by_cases hia : i = at'
    ·rw [if_pos ⟨hia, by omega⟩, if_pos ⟨hia, by omega⟩]
    ·rw [if_neg (fun h => hia h.1), if_neg (fun h => hia h.1)]
  ·rw [hP]
   by_cases hjk : j = k
   ·subst hjk
    rw [hx] at hc; cases hc
    rw [List.getElem?_set, if_pos rfl, if_pos (by rw [ycJ, hlm]; exact hxr.2)]
   ·have hcx : c ≠ x := fun e => by
     subst e
     have := (List.getElem?_inj (by omega : k < ch.length) hnd).1 (hx.trans hc.symm)
     omega
    have hcr := hr c (List.mem_of_getElem? hc)
    rw [List.getElem?_set_ne (Ne.symm hcx), yfS _ x (by omega) _ c (by omega)]
    by_cases h0 : k = 0
    ·omega
    ·have := hyr (by omega)
     rw [if_neg h0, yfS _ y (by omega) _ c (by omega)]
     exact I.sec j c (by omega) hc
  ·rw [yeX hx] at hno
   rw [hP, List.getElem?_set_ne (fun e => hno (.inr e.symm)), yfS _ x (by omega) _ c (by omega)]
   by_cases h0 : k = 0
   ·rw [if_pos h0, yfT _ _ hat _ _ c hc]
    exact I.ose c hc fun h => hno (.inl h)
   ·have := hyr (by omega)
    rw [if_neg h0, yfS _ y (by omega) _ c (by omega)]
    exact I.ose c hc fun h => hno (.inl h)
theorem ylv (h8 : ∀ l ∈ L, SecOk l) (h10 : 10 < L.length) (at' : Nat) (hat : at' < 32) (nm : List Int) (hn : B8 nm) (hnl : nm.length <= 20) (n : Nat) (hn2 : n <= 65535) (hz : slt L at' = z32) :
  (∀ c, c < 256 -> tb (entP L at' nm n) c = tb L c) /\ (∀ i, i < 32 -> slt (entP L at' nm n) i = if i = at' then entB nm n 254 else slt L i) /\ (∀ c, 10 <= c -> (entP L at' nm n)[c]? = L[c]?) := by
 have a1 := yl0 L at' nm h8 (by omega) (by omega) hn
 have l1 := yfi L at' nm
 have a2 := ydr _ at' 20 254 a1 (by omega) (by omega) (by omega)
 have l2 := ybn (slS L at' nm) at' 20 254
 refine ⟨fun c hc => ?_, fun i hi => ?_, fun c hc => ?_⟩
 ·unfold entP
  rw [yiD _ _ _ _ c hc, yiD _ _ _ _ c hc, yiD _ _ _ _ c hc, ypE _ _ _ c hc]
 ·have a3 := ydr _ at' 21 ((n / 256 : Nat) : Int) a2 (by omega) (by omega) (by omega)
  have l3 := ybn (setB (slS L at' nm) at' 20 254) at' 21 ((n / 256 : Nat) : Int)
  unfold entP
  rw [yei a3 at' 22 (by omega) (by omega) _ i, yei a2 at' 21 (by omega) (by omega) _ i, yei a1 at' 20 (by omega) (by omega) _ i, ylZ h8 at' (by omega) nm (by omega) i,
   yei a2 at' 21 (by omega) (by omega) _ at', yei a1 at' 20 (by omega) (by omega) _ at', ylZ h8 at' (by omega) nm (by omega) at', if_pos rfl, if_pos rfl, if_pos rfl, hz, ynV nm n hnl]
  by_cases hia : i = at'
  ·rw [if_pos hia, if_pos hia]
  ·rw [if_neg hia, if_neg hia, if_neg hia, if_neg hia, if_neg hia]
 ·unfold entP
  rw [yfT _ _ hat _ _ c hc, yfT _ _ hat _ _ c hc, yfT _ _ hat _ _ c hc, yow _ _ hat _ c hc]
theorem yoF (h : Rep L F) (k : Nat) (hk : k < 32) (hk0 : F k = none) (nm data : List Int) (hn : okName nm = true) (h8n : B8 nm) (hd : B8 data) (hdl : data.length <= 65535) (hnew : ∀ i p, i < 32 -> F i = some p -> p.nm ≠ nm) (ch : List Nat) (hch : ch = (freeN L L.length).take (need data.length)) (hroom : need data.length <= (freeN L L.length).length) :
  Rep (putP L k nm data) (upd F k (some ⟨nm, data, ch⟩)) /\ (∀ i, i < 256 -> i ∉ ch -> tb (putP L k nm data) i = tb L i) /\ (∀ i ∈ ch, tb (putP L k nm data) i ≠ 255) /\ (putP L k nm data).length = L.length := by
 have h10 := h.h10
 have h240 := h.h240
 have hnl := (yaU hn).1
 have hmem : ∀ c ∈ ch, c ∈ freeN L L.length := fun c hc => by rw [hch] at hc; exact List.mem_of_mem_take hc
 have hr : ∀ c ∈ ch, 10 <= c /\ c < L.length := fun c hc => by
  have := (yg0 L L.length c).1 (hmem c hc)
  exact ⟨this.1, this.2.1⟩
 have hnd : ch.Nodup := by rw [hch]; exact (ygZ L _).sublist (List.take_sublist _ _)
 have hcl : ch.length = need data.length := by rw [hch, List.length_take]; omega
 obtain ⟨e1, e2, e3⟩ := ylv h.h8 h10 k hk nm h8n hnl data.length hdl (h.zer k hk hk0)
 have e4 := yiX L k nm data.length
 have e5 := ymL L h.h8 h10 k hk nm h8n hnl data.length hdl
 have hP : putP L k nm data = stepsP k data (ch.map fun c : Nat => (c : Int)) (entP L k nm data.length) ch.length := by
  unfold putP
  rw [ymv, <- List.map_take, <- hch, hcl]
 have I := ylT k hk data hd ch hnd (entP L k nm data.length) (by rw [e4]; exact h10) (by rw [e4]; exact h240) e5 (by rw [e4]; exact hr) ch.length (Nat.le_refl _)
 rw [<- hP] at I
 generalize putP L k nm data = P at *
 have hlen : P.length = L.length := I.len.trans e4
 have htk : ch.take ch.length = ch := List.take_length
 have hoth : ∀ c, c < 256 -> c ∉ ch -> tb P c = tb L c := fun c hc hno => by rw [I.oth c hc (by rw [htk]; exact hno), e1 c hc]
 have hlk : ∀ j c, ch[j]? = some c -> tb P c = ((ch.getD (j + 1) 254 : Nat) : Int) := fun j c hj => by
  have hlt := (List.getElem?_eq_some_iff.1 hj).1
  rw [I.lnk j c hlt hj]
  by_cases h1 : j + 1 < ch.length
  ·rw [if_pos h1]
  ·rw [if_neg h1]
   have : ch.getD (j + 1) 254 = 254 := by rw [List.getD_eq_getElem?_getD, List.getElem?_eq_none (by omega)]; rfl
   rw [this]; rfl
 have hne : ∀ c ∈ ch, tb P c ≠ 255 := fun c hc => by
  obtain ⟨j, hj⟩ := List.getElem?_of_mem hc
  rw [hlk j c hj]
  cases hq : ch[j + 1]? with
  | none => rw [List.getD_eq_getElem?_getD, hq]; decide
  | some d =>
   have := hr d (List.mem_of_getElem? hq)
   rw [List.getD_eq_getElem?_getD, hq]
   show ((d : Nat) : Int) ≠ 255
   omega
 have hent : ∀ i, i < 32 -> slt P i = if i = k then entB nm data.length (ch.getD 0 254) else slt L i := fun i hi => by
  rw [I.ent i hi, e2 k hk, if_pos rfl, e2 i hi]
  by_cases hik : i = k
  ·by_cases hc0 : 0 < ch.length
   ·rw [if_pos ⟨hik, hc0⟩, if_pos hik, yiW nm _ _ _ hnl]
   ·rw [if_neg (fun h => hc0 h.2), if_pos hik, if_pos hik]
    have : ch = [] := List.eq_nil_of_length_eq_zero (by omega)
    rw [this]; rfl
  ·rw [if_neg (fun h => hik h.1), if_neg hik, if_neg hik]
 have hold : ∀ i p, i < 32 -> F i = some p -> ∀ c ∈ p.ch, c ∉ ch := fun i p hi hp c hc hm => by
  have h1 := ((yg0 L L.length c).1 (hmem c hm)).2.2
  obtain ⟨j, hj⟩ := List.getElem?_of_mem hc
  have g := (h.fil i p hi hp).1
  rw [(g.lnk j c hj).1] at h1
  cases hq : p.ch[j + 1]? with
  | none => rw [List.getD_eq_getElem?_getD, hq] at h1; exact absurd h1 (by decide)
  | some d =>
   have := g.rng d (List.mem_of_getElem? hq)
   rw [List.getD_eq_getElem?_getD, hq] at h1
   have : ((d : Nat) : Int) = 255 := h1
   omega
 refine ⟨⟨by omega, by omega, I.ok, fun i hi hf => ?_, fun i q hi hq => ?_, fun i hi hq => ?_, fun i j q r hi hj hq hr' he => ?_, fun i j q r c hi hj hq hr' hc1 hc2 => ?_, fun c hc1 hc2 hno => ?_⟩, hoth, hne, hlen⟩
 ·rw [hlen] at hf
  rw [hoth i hi (fun hm => by have := hr i hm; omega)]
  exact h.fix i hi hf
 ·by_cases hik : i = k
  ·subst hik
   rw [ygB] at hq; cases hq
   refine ⟨⟨hn, h8n, hd, hdl, hcl, hnd, by rw [hlen]; exact hr, fun j c hj => ⟨hlk j c hj, I.sec j c (List.getElem?_eq_some_iff.1 hj).1 hj⟩⟩, ?_⟩
   rw [hent i hi, if_pos rfl]; rfl
  ·rw [yeW F _ hik] at hq
   obtain ⟨g1, g2⟩ := h.fil i q hi hq
   refine ⟨g1.mv hlen (fun c hc => hoth c (by have := g1.rng c hc; omega) (hold i q hi hq c hc)) fun c hc => ?_, by rw [hent i hi, if_neg hik]; exact g2⟩
   have := (g1.rng c hc).1
   rw [I.ose c this (by rw [htk]; exact hold i q hi hq c hc), e3 c this]
 ·by_cases hik : i = k
  ·rw [hik, ygB] at hq; cases hq
  ·rw [yeW F _ hik] at hq
   rw [hent i hi, if_neg hik]
   exact h.zer i hi hq
 ·by_cases hik : i = k
  ·by_cases hjk : j = k
   ·omega
   ·subst hik
    rw [ygB] at hq; cases hq
    rw [yeW F _ hjk] at hr'
    exact absurd he.symm (hnew j r hj hr')
  ·rw [yeW F _ hik] at hq
   by_cases hjk : j = k
   ·subst hjk
    rw [ygB] at hr'; cases hr'
    exact absurd he (hnew i q hi hq)
   ·rw [yeW F _ hjk] at hr'
    exact h.dnm i j q r hi hj hq hr' he
 ·by_cases hik : i = k
  ·by_cases hjk : j = k
   ·omega
   ·subst hik
    rw [ygB] at hq; cases hq
    rw [yeW F _ hjk] at hr'
    exact absurd hc1 (hold j r hj hr' c hc2)
  ·rw [yeW F _ hik] at hq
   by_cases hjk : j = k
   ·subst hjk
    rw [ygB] at hr'; cases hr'
    exact absurd hc2 (hold i q hi hq c hc1)
   ·rw [yeW F _ hjk] at hr'
    exact h.dch i j q r c hi hj hq hr' hc1 hc2
 ·rw [hlen] at hc2
  have hnc : c ∉ ch := fun hm => hno k ⟨nm, data, ch⟩ hk (ygB _ _ _) hm
  rw [hoth c (by omega) hnc]
  refine h.fre c hc1 hc2 fun i q hi hq hcq => ?_
  have hik : i ≠ k := fun e => by rw [e, hk0] at hq; cases hq
  exact hno i q hi (by rw [yeW F _ hik]; exact hq) hcq
theorem ykh {l : List Nat} (hn : l.Nodup) (n : Nat) : l.filter (fun c => !decide (c ∈ l.take n)) = l.drop n := by
 have h := List.take_append_drop n l
 have hd : ∀ c ∈ l.drop n, c ∉ l.take n := by
  rw [<- h] at hn
  have := (List.nodup_append.1 hn).2.2
  intro c hc hm
  exact this c hm c hc rfl
 have e : l.filter (fun c => !decide (c ∈ l.take n)) = (l.take n ++ l.drop n).filter (fun c => !decide (c ∈ l.take n)) := by rw [h]
 rw [e, List.filter_append, List.filter_eq_nil_iff.2 (fun c hc => by simp [hc]), List.nil_append, List.filter_eq_self.2 fun c hc => by simp [hd c hc]]
theorem ymw {L L' : List (List Int)} {n : Nat} (hN : L.length <= 256) (hl : L'.length = L.length) (h1 : ∀ i, i < 256 -> i ∉ (freeN L L.length).take n -> tb L' i = tb L i) (h2 : ∀ i ∈ (freeN L L.length).take n, tb L' i ≠ 255) : freeN L' L'.length = (freeN L L.length).drop n := by
 rw [<- ykh (ygZ L _) n, hl]
 generalize (freeN L L.length).take n = t at *
 unfold freeN
 rw [List.filter_filter]
 refine List.filter_congr fun c hc => ?_
 have hcN : c < L.length := List.mem_range.1 (List.mem_of_mem_drop hc)
 by_cases hm : c ∈ t
 ·have := h2 c hm
  simp [hm, this]
 ·rw [h1 c (by omega) hm]
  simp [hm]
theorem ynj {L L' : List (List Int)} {n : Nat} (hN : L.length <= 256) (hl : L'.length = L.length) (h1 : ∀ i, i < 256 -> i ∉ (freeN L L.length).take n -> tb L' i = tb L i) (h2 : ∀ i ∈ (freeN L L.length).take n, tb L' i ≠ 255) : roomP L' = roomP L - n := by
 rw [ye3, ye3, ymw hN hl h1 h2, List.length_drop]
end Go.Proofs.YtnjjnnfpnjjccaaGreatDoor.D
set_option linter.unusedSimpArgs false
set_option linter.unusedVariables false
namespace Go.Proofs.YtnjjnnfpnjjccaaGreatDoor.D
open Go Go.Det
variable {L : List (List Int)}
def FL (ps : List PF) (i : Nat) : Option PF := ps[i]?
theorem yqn (ps : List PF) (p : PF) : upd (FL ps) ps.length (some p) = FL (ps ++ [p]) := by
 funext i
 unfold upd FL
 by_cases h : i = ps.length
 ·rw [if_pos h, h, List.getElem?_append_right (Nat.le_refl _), Nat.sub_self]; rfl
 ·rw [if_neg h]
  rcases Nat.lt_or_ge i ps.length with h1 | h1
  ·rw [List.getElem?_append_left h1]
  ·rw [List.getElem?_eq_none h1, List.getElem?_eq_none (by rw [List.length_append, List.length_singleton]; omega)]
theorem ym3 {ps : List PF} {i : Nat} {p : PF} (h : FL ps i = some p) : p ∈ ps := List.mem_of_getElem? h
theorem ypv (ps : List PF) (h : ps.length <= 32) : listF (FL ps) = ps.map fun p => (p.nm, p.dt) := by
 unfold listF
 have : ∀ r k, k + r = 32 -> k <= ps.length -> ((List.range 32).drop k).flatMap (fun i => match FL ps i with | some p => [(p.nm, p.dt)] | none => []) = (ps.drop k).map fun p => (p.nm, p.dt) := by
  intro r
  induction r with
  | zero =>
   intro k hk hl
   rw [List.drop_eq_nil_of_le (by simp; omega), List.drop_eq_nil_of_le (by omega)]; rfl
  | succ r ih =>
   intro k hk hl
   have hr : (List.range 32).drop k = k :: (List.range 32).drop (k + 1) := by
    rw [List.drop_eq_getElem_cons (by simp; omega)]
    congr 1
    exact List.getElem_range _
   rw [hr, List.flatMap_cons]
   rcases Nat.lt_or_ge k ps.length with h1 | h1
   ·have e : FL ps k = some (ps[k]'h1) := List.getElem?_eq_getElem h1
    rw [e, ih (k + 1) (by omega) h1, List.drop_eq_getElem_cons h1]
    rfl
   ·have e : ∀ i, k <= i -> FL ps i = none := fun i hi => List.getElem?_eq_none (by omega)
    rw [e k (Nat.le_refl _), List.drop_eq_nil_of_le h1]
    have : ((List.range 32).drop (k + 1)).flatMap (fun i => match FL ps i with | some p => [(p.nm, p.dt)] | none => []) = [] := by
     rw [List.flatMap_eq_nil_iff]
     intro i hi
     obtain ⟨q, hq⟩ := List.getElem?_of_mem hi
     rw [List.getElem?_drop] at hq
     have hlt := (List.getElem?_eq_some_iff.1 hq).1
     rw [List.length_range] at hlt
     rw [List.getElem?_range hlt] at hq
     have : k + 1 + q = i := Option.some.inj hq
     rw [e i (by omega)]
    rw [this]; rfl
 have := this 32 0 rfl (by omega)
 rwa [List.drop_zero, List.drop_zero] at this
theorem ypw (L : List (List Int)) (N : Nat) (hL : L.length = N) (hN : 10 < N) (h : ∀ i, 2 <= i -> i < N -> L[i]? = some zs128) (i : Nat) (hi : i < 32) : slt L i = z32 := by
 unfold slt
 rw [yaa (h (2 + i / 4) (by omega) (by omega))]
 unfold zs128 z32
 rw [List.drop_replicate, List.take_replicate]
 congr 1
 omega
theorem yoG (N : Nat) (hL : L.length = N) (hN : 10 < N) (hN2 : N <= 240) (h8 : ∀ l ∈ L, SecOk l) (ht : ∀ j, j < 256 -> tb L j = if 10 <= j /\ j < N then 255 else 253) (hz : ∀ i, 2 <= i -> i < N -> L[i]? = some zs128) : Rep L (FL []) /\ roomP L = N - 10 := by
 have hno : ∀ {i : Nat} {p : PF}, FL [] i = some p -> False := fun h => by simp [FL] at h
 refine ⟨⟨by omega, by omega, h8, fun i hi hf => by rw [ht i hi, if_neg (by omega)], fun i p _ h => (hno h).elim, fun i hi _ => ypw L N hL hN hz i hi, fun i j p q _ _ h => (hno h).elim, fun i j p q c _ _ h => (hno h).elim, fun c h1 h2 _ => by rw [ht c (by omega), if_pos (by omega)]⟩, ?_⟩
 rw [ye3]
 have : freeN L L.length = (List.range L.length).drop 10 := by
  unfold freeN
  refine List.filter_eq_self.2 fun c hc => ?_
  obtain ⟨q, hq⟩ := List.getElem?_of_mem hc
  rw [List.getElem?_drop] at hq
  have hlt := (List.getElem?_eq_some_iff.1 hq).1
  rw [List.length_range] at hlt
  rw [List.getElem?_range hlt] at hq
  have : 10 + q = c := Option.some.inj hq
  rw [ht c (by omega), if_pos (by omega)]; rfl
 rw [this, List.length_drop, List.length_range, hL]
structure CD (n0 : Nat) (T S : Int) (H : AH) (v : Value) (L : List (List Int)) (ps : List PF) : Prop where
 dk : ∃ vs, Dk n0 L.length H v vs L
 rp : Rep L (FL ps)
 t1 : 1 <= T
 t2 : T <= 20
 s1 : 1 <= S
 s2 : S <= 12
 ll : (L.length : Int) = T * S
 pl : ps.length <= 32
theorem CD.ext {n0 : Nat} {T S : Int} {H H' : AH} {v : Value} {ps : List PF} (h : CD n0 T S H v L ps) (x : HExt H H') : CD n0 T S H' v L ps :=
 ⟨let ⟨vs, d⟩ := h.dk; ⟨vs, d.ext x⟩, h.rp, h.t1, h.t2, h.s1, h.s2, h.ll, h.pl⟩
theorem CD.secs {n0 : Nat} {T S : Int} {H : AH} {v : Value} {ps : List PF} (h : CD n0 T S H v L ps) : Secs H v L := let ⟨_, d⟩ := h.dk; d.secs
theorem CD.old {n0 : Nat} {T S : Int} {H : AH} {v : Value} {ps : List PF} (h : CD n0 T S H v L ps) (p : PF) (hp : p ∈ ps) : PfOk L p := by
 obtain ⟨i, hi⟩ := List.getElem?_of_mem hp
 have hlt := (List.getElem?_eq_some_iff.1 hi).1
 have := h.pl
 exact (h.rp.fil i p (by omega) hi).1
theorem CD.set {n0 : Nat} {T S : Int} {H : AH} {v : Value} {ps : List PF} (h : CD n0 T S H v L ps) (E : Nat) (hE : E < n0) (bk : Blk) : CD n0 T S (H.set E bk) v L ps := by
 refine ⟨?_, h.rp, h.t1, h.t2, h.s1, h.s2, h.ll, h.pl⟩
 obtain ⟨vs, d⟩ := h.dk
 refine ⟨vs, d.set (fun hb => ?_) fun i x hx hb => ?_⟩
 ·have := Own.geB d.own hb; omega
 ·have hi : i < L.length := by have := (List.getElem?_eq_some_iff.1 hx).1; rw [<- d.len]; exact this
  have := d.ge i x hi hx hb; omega
theorem cNew (T S : Int) (hT : 1 <= T) (hT2 : T <= 20) (hS : 1 <= S) (hS2 : S <= 12) (N : Nat) (hN : (N : Int) = T * S) (hN10 : 10 < N) (hN2 : N <= 240) (H : AH) (Q : Value -> AH -> Prop)
  (hq : ∀ v L H', CD H.n T S H' v L [] -> L.length = N -> roomP L = N - 10 -> HExt H H' -> Q (.tuple [.agg #[.int .i64 T, .int .i64 S, v], .int .i64 0].toArray) H') :
  Got (xc Tryz.prog tab 61 [.int .i64 T, .int .i64 S] H) Q := by
 refine yn0 T S hT hT2 hS hS2 N hN hN10 hN2 H Q ?_
 intro v vs L H' d hl h8 ht hz x
 obtain ⟨r1, r2⟩ := yoG N hl hN10 hN2 h8 ht hz
 exact hq v L H' ⟨⟨vs, d⟩, r1, hT, hT2, hS, hS2, by rw [hl]; exact hN, by simp⟩ hl r2 x
theorem cList {n0 : Nat} {T S : Int} {H : AH} {v : Value} {ps : List PF} (c : CD n0 T S H v L ps) (Q : Value -> AH -> Prop) (hq : ∀ H' vo l, HExt H H' -> Fils H' vo l -> l.map FE.told = ps.map (fun p => (p.nm, p.dt)) -> Q (.tuple [vo, .int .i64 0].toArray) H') :
  Got (xc Tryz.prog tab 29 [.agg #[.int .i64 T, .int .i64 S, v]] H) Q := by
 refine ypu T S v L H Q c.secs c.rp.h8 c.t1 c.t2 c.s1 c.s2 c.ll c.rp.h10 c.rp.h240 (ygI c.rp) (fun k hk hz => yno c.rp k hk hz) ?_
 rw [yl3 c.rp, ypv ps c.pl]
 exact hq
theorem cGone {n0 : Nat} {T S : Int} {H : AH} {v : Value} {ps : List PF} (c : CD n0 T S H v L ps) (s : List Int) (hs8 : B8 s) (hs : ∀ p ∈ ps, p.nm ≠ s) (Q : Value -> AH -> Prop) (hq : ∀ H', HExt H H' -> Q (.tuple [.slice none 0 0, .int .i64 4].toArray) H') :
  Got (xc Tryz.prog tab 64 [.agg #[.int .i64 T, .int .i64 S, v], .string (sB s)] H) Q := by
 have hf := yjI c.rp s fun i p _ h => hs p (ym3 h)
 exact yqm T S v L s hs8 H Q c.secs c.rp.h8 c.t1 c.t2 c.s1 c.s2 c.ll c.rp.h10 c.rp.h240 (ygI c.rp) (fun _ => hq) (fun k' e => by rw [hf] at e; omega) (.inl hf)
theorem cPut {n0 : Nat} {T S : Int} {H : AH} {v : Value} {ps : List PF} (c : CD n0 T S H v L ps) (nm data : List Int) (vd : Value) (hn : okName nm = true) (hn8 : B8 nm) (hd : Byts H vd data) (hd8 : B8 data) (hdl : data.length <= 65535) (hps : ps.length < 32) (hnew : ∀ p ∈ ps, p.nm ≠ nm) (hroom : need data.length <= roomP L) (Q : Value -> AH -> Prop)
  (hq : ∀ w L' p H', CD H.n T S H' w L' (ps ++ [p]) -> p.nm = nm -> p.dt = data -> L'.length = L.length -> roomP L' = roomP L - need data.length -> (∀ i, i < 256 -> i ∉ p.ch -> tb L' i = tb L i) -> (∀ i ∈ p.ch, tb L i = 255) -> HExt H H' -> Q (.tuple [.agg #[.int .i64 T, .int .i64 S, w], .int .i64 0].toArray) H') :
  Got (xc Tryz.prog tab 62 [.agg #[.int .i64 T, .int .i64 S, v], .string (sB nm), vd] H) Q := by
 have h0 : FL ps ps.length = none := List.getElem?_eq_none (Nat.le_refl _)
 have hr2 : need data.length <= (freeN L L.length).length := by rw [<- ye3]; exact hroom
 obtain ⟨r1, r2, r3, r4⟩ := yoF c.rp ps.length hps h0 nm data hn hn8 hd8 hdl (fun i p _ h => hnew p (ym3 h)) _ rfl hr2
 have h256 : L.length <= 256 := by have := c.rp.h240; omega
 have hrm := ynj h256 r4 r2 r3
 rw [yqn] at r1
 refine yps T S v vd L nm data ps.length H Q c.secs c.rp.h8 c.t1 c.t2 c.s1 c.s2 c.ll c.rp.h10 c.rp.h240 (ygI c.rp) hn8 hn (yaU hn).1 hd hd8 hdl (yjI c.rp nm fun i p _ h => hnew p (ym3 h)) hps (c.rp.zero0 hps h0) (fun j hj => ?_) (by rw [ymv, List.length_map]; exact hr2) ?_
 ·exact (c.rp.ent0 (p := ps[j]'hj) (by omega) (List.getElem?_eq_getElem hj)).2.1
 ·intro w vs H' d x
  have hl : (putP L ps.length nm data).length = L.length := r4
  refine hq w _ _ H' ⟨⟨vs, by rw [hl]; exact d⟩, r1, c.t1, c.t2, c.s1, c.s2, by rw [hl]; exact c.ll, by simp; omega⟩ rfl rfl r4 hrm r2 (fun i hi => ?_) x
  exact ((yg0 L L.length i).1 (List.mem_of_mem_take hi)).2.2
end Go.Proofs.YtnjjnnfpnjjccaaGreatDoor.D
set_option linter.unusedSimpArgs false
set_option linter.unusedVariables false
namespace Go.Proofs.YtnjjnnfpnjjccaaGreatDoor.D
open Go Go.Det
theorem yop {P : Program} {T : XTab} {fr : Fr} {H : AH} {dd : Option Nat} {s d t : TypeId} {x : Operand} {j : IntKind} (hs : P.underlying s = some (.int j)) (hd : P.underlying d = some .string) {k : IntKind} {n : Int} (hx : ev fr x = some (.int k n)) : xval P (xc P T) ⟨dd, .flat (.convert s d x) t, none⟩ fr H = some (.string (Utf8.encode n), H) := by
 rw [yap dd _ fr H rfl]
 refine ycX ?_ ?_ rfl
 ·simp [Op.operands, evFlat, hx, flatD]
 ·simp only [execOp, flatOper, hx, Option.getD_some]
  unfold convert
  simp only [yas, yaF hs, yaF hd, zB, Conv.intToString, yaw]
theorem ypz {P : Program} {T : XTab} {fr : Fr} {H : AH} {dd : Option Nat} {s d t : TypeId} {x : Operand} {j : IntKind} (hs : P.underlying s = some (.int j)) (hd : P.underlying d = some .string) : xval P (xc P T) ⟨dd, .flat (.convert s d x) t, none⟩ fr H = altI (ev fr x) (fun _ n => some (.string (Utf8.encode n), H)) (xop P fr H (.flat (.convert s d x) t)) := by
 unfold altI
 split
 ·rename_i k n h; exact yop hs hd h
 ·exact yap dd _ fr H rfl
theorem ty21 : Tryz.prog.underlying 21 = some (.int .i32) := by kernel_rfl
theorem rune5 (i : Nat) (hi : i < 5) : Utf8.encode ((97 : Int) + (i : Int)) = sB [97 + (i : Int)] := by
 rcases i with _ | _ | _ | _ | _ | i
 ·rfl
 ·rfl
 ·rfl
 ·rfl
 ·rfl
 ·omega
def nmF (i : Nat) : List Int := [102, 105, 108, 101, 45, 97 + (i : Int)]
theorem ylu : ByteArray.mk #[102, 105, 108, 101, 45] = sB [102, 105, 108, 101, 45] := rfl
theorem ynd (i : Nat) : sbin .add (sB [102, 105, 108, 101, 45]) (sB [97 + (i : Int)]) = some (.string (sB (nmF i))) := ylS [102, 105, 108, 101, 45] [97 + (i : Int)] (by simp)
theorem yfA : ∀ i : Nat, i < 5 -> okName (nmF i) = true /\ B8 (nmF i) := by
 intro i hi
 refine ⟨?_, fun b hb => ?_⟩
 ·rcases i with _ | _ | _ | _ | _ | i
  ·decide
  ·decide
  ·decide
  ·decide
  ·decide
  ·omega
 ·simp only [nmF, List.mem_cons, List.not_mem_nil, or_false] at hb
  omega
theorem yj9 (i j : Nat) (h : nmF i = nmF j) : i = j := by
 simp only [nmF, List.cons.injEq, and_true, true_and] at h
 omega
theorem wrU8m (n : Int) : IntKind.u8.wrap n = n % 256 := by
 show (if (false && decide (n % (2 ^ 8 : Int) >= (2 ^ 7 : Int))) = true then n % (2 ^ 8 : Int) - (2 ^ 8 : Int) else n % (2 ^ 8 : Int)) = n % 256
 rw [show (2 : Int) ^ 8 = 256 from rfl]
 simp only [Bool.false_and, zA, if_false]
theorem wrI32 (n : Int) (h0 : 0 <= n) (h1 : n < 1000000) : IntKind.i32.wrap n = n := by
 show (if (true && decide (n % (2 ^ 32 : Int) >= (2 ^ 31 : Int))) = true then n % (2 ^ 32 : Int) - (2 ^ 32 : Int) else n % (2 ^ 32 : Int)) = n
 rw [show (2 : Int) ^ 32 = 4294967296 from rfl, show (2 : Int) ^ 31 = 2147483648 from rfl]
 simp only [Bool.true_and, decide_eq_true_eq]
 split <;> omega
def datP (x y : Int) (n : Nat) : List Int := (List.range n).map fun k : Nat => (x + (k : Int) * y) % 256
theorem yfb (x y : Int) (n : Nat) : (datP x y n).length = n := by simp [datP]
theorem ypl (x y : Int) (n : Nat) : B8 (datP x y n) := fun b hb => by
 obtain ⟨k, _, rfl⟩ := List.mem_map.1 hb
 exact ⟨Int.emod_nonneg _ (by omega), Int.emod_lt_of_pos _ (by omega)⟩
theorem ymS (x y : Int) (n : Nat) : datP x y (n + 1) = datP x y n ++ [(x + (n : Int) * y) % 256] := by
 unfold datP
 rw [List.range_succ, List.map_append]; rfl
theorem ynR (n0 n : Nat) (hn : n <= 1000) (x y : Int) (hx0 : 0 <= x) (hx1 : x < 256) (hy0 : 0 <= y) (hy1 : y < 9) (s a3 a4 a5 a15 a16 : Value) (H : AH) (Q : XExit -> Fr -> AH -> Prop) (ho : OwnB n0 H s (List.replicate n 0)) (hn0 : n0 <= H.n)
  (hq : ∀ H' b, OwnB n0 H' s (datP x y n) -> Keep n0 H H' -> Q (.exit 2) [(3, a3), (4, a4), (5, a5), (7, .int .i64 x), (8, .int .i64 y), (9, s), (15, a15), (16, a16), (28, .int .i64 (n : Int)), (29, .int .i64 (n : Int)), (30, b)] H') :
  Run Tryz.prog tab (.loop ybw) [(3, a3), (4, a4), (5, a5), (7, .int .i64 x), (8, .int .i64 y), (9, s), (15, a15), (16, a16), (28, .int .i64 (n : Int)), (29, .int .i64 0)] H Q := by
 refine yaz (fun k fr H' => OwnB n0 H' s (datP x y k ++ List.replicate (n - k) 0) /\ Keep n0 H H' /\ fr = [(3, a3), (4, a4), (5, a5), (7, .int .i64 x), (8, .int .i64 y), (9, s), (15, a15), (16, a16), (28, .int .i64 (n : Int)), (29, .int .i64 (k : Int))]) n ⟨ho, .refl _ _, rfl⟩ ?_ ?_
 ·rintro k hk fr H1 ⟨o1, k1, rfl⟩ J hJ
  have hlt : (k : Int) < (n : Int) := by omega
  have w3 := wrS k (by omega)
  have hky0 : 0 <= (k : Int) * y := Int.mul_nonneg (by omega) hy0
  have hky1 : (k : Int) * y <= 1000 * 9 := Int.mul_le_mul (by omega) (by omega) hy0 (by omega)
  have w1 := wrI ((k : Int) * y) (by omega) (by omega)
  have w2 := wrI (x + (k : Int) * y) (by omega) (by omega)
  have w4 := wrU8m (x + (k : Int) * y)
  have e1 := yau o1.1 .i64 (k : Int) k rfl (by rw [List.length_append, yfb, List.length_replicate]; omega)
  simp only [zZ, zY, ybw, q_b, q_d, q_j, q_B, q_W, q_Z, v_st, qb_f, ev, qb_v, xbin, ibin, if_true, if_false, Nat.reduceEqDiff, Nat.reduceLT, hlt, decide_true, w1, w2, pConv, w4, e1]
  refine yfm o1 (by rw [List.length_map, List.length_append, yfb, List.length_replicate]; omega) (yaR _ _) (ygz _ _) ?_
  intro H2 o2 s2
  have k2 := s2.keep o1 (by have := k1.1; omega)
  have hr : List.replicate (n - k) (0 : Int) = 0 :: List.replicate (n - (k + 1)) 0 := by rw [show n - k = (n - (k + 1)) + 1 by omega]; rfl
  have el : (datP x y k ++ List.replicate (n - k) (0 : Int)).set k ((x + (k : Int) * y) % 256) = datP x y (k + 1) ++ List.replicate (n - (k + 1)) 0 := by
   rw [hr, List.set_append_right _ _ (by rw [yfb]; omega), yfb, Nat.sub_self, List.set_cons_zero, ymS, List.append_assoc]; rfl
  have o3 : OwnB n0 H2 s (datP x y (k + 1) ++ List.replicate (n - (k + 1)) 0) := by
   unfold OwnB
   rw [<- el, List.length_set, List.map_set]
   exact o2
  simp only [w3]
  exact hJ _ _ ⟨o3, k1.trans k2, rfl⟩
 ·rintro fr H1 ⟨o1, k1, rfl⟩
  rw [Nat.sub_self, List.replicate_zero, List.append_nil] at o1
  simp only [zZ, zY, ybw, q_b, q_e, q_h, q_j, q_C, q_W, q_Z, v_st, qb_f, ev, qb_v, xbin, ibin, if_true, if_false, Nat.reduceEqDiff, Nat.reduceLT, Int.lt_irrefl, decide_false]
  exact hq H1 _ o1 k1
structure GF (n1 : Nat) (H : AH) (v : Value) (l : List FE) : Prop where
 out : OutE n1 H v l
 nms : ∀ i p, l[i]? = some p -> p.nm = nmF i
 len : l.length <= 5
 dts : ∀ p ∈ l, p.dt.length < 300 /\ B8 p.dt
 ge : ∀ p ∈ l, ∀ b, inB p.w b -> n1 <= b
theorem GF.ext {n1 : Nat} {H H' : AH} {v : Value} {l : List FE} (h : GF n1 H v l) (x : HExt H H') : GF n1 H' v l := ⟨h.out.ext x, h.nms, h.len, h.dts, h.ge⟩
theorem OutE.same {n0 : Nat} {H H' : AH} {v : Value} {l : List FE} (h : OutE n0 H v l) (hn : H.n <= H'.n) (h1 : ∀ b, inB v b -> H'.get b = H.get b) (h2 : ∀ p ∈ l, ∀ b, inB p.w b -> H'.get b = H.get b) : OutE n0 H' v l :=
 ⟨Own.same h.own hn h1, fun p hp => Sl.same (h.byt p hp) hn (h2 p hp), h.dis⟩
theorem GF.same {n1 : Nat} {H H' : AH} {v : Value} {l : List FE} (h : GF n1 H v l) (hn : H.n <= H'.n) (hg : ∀ b, n1 <= b -> b < H.n -> H'.get b = H.get b) : GF n1 H' v l :=
 ⟨h.out.same hn (fun b hb => hg b (Own.geB h.out.own hb) (h.out.own.1.lt hb)) fun p hp b hb => hg b (h.ge p hp b hb) ((h.out.byt p hp).lt hb), h.nms, h.len, h.dts, h.ge⟩
theorem GF.nil (n1 : Nat) (H : AH) : GF n1 H (.slice none 0 0) [] := ⟨OutE.nil _ _, fun i p h => by simp at h, Nat.zero_le _, fun p h => by simp at h, fun p h => by simp at h⟩
theorem Strm.keep {n0 n1 B : Nat} {H H' : AH} {v : Value} {l : List Int} (h : Strm n0 H B v l) (k : Keep n1 H H') (hB : B < n1) : Strm n0 H' B v l :=
 ⟨h.nb, Nat.lt_of_lt_of_le h.lt k.1, (k.2 B hB).trans h.box, Ints.keep h.ints k fun b hb => by have := h.out b hb; have := h.nb; omega, h.out⟩
set_option maxHeartbeats 4000000 in
theorem yn5 (l : List Int) (s : Value) (H : AH) (Q : Value -> AH -> Prop) (hs : Ints H s l) (hq : ∀ v fs H', GF (H.n + 1) H' v fs -> HExt H H' -> Q v H') : Got (xc Tryz.prog tab 32 [s] H) Q := by
 refine yac (res := [.tmp 2]) rfl ?_
 obtain ⟨o1, o2⟩ := ye1 hs
 have o3 := fun H => ylq H o1 o2
 generalize hTT : ((.seq (.seq (.ops (⟨some 14, _, _⟩ :: _) _) _) _) : XCode) = TT
 simp only [zZ, zY, ofArgs, qb_j, ev, if_true, if_false, reduceCtorEq, Nat.reduceEqDiff, Nat.reduceLT, v_mk1, o3, box1]
 have h1 : Strm H.n (H.push ⟨[s], 1, false, false⟩) H.n s l := by
  refine ⟨Nat.le_refl _, by simp, by rw [AH.get_push, if_pos rfl], Sl.ext (yab H _) hs, fun b hb => Sl.lt hs hb⟩
 have x1 := yab H ⟨[s], 1, false, false⟩
 have n1 : (H.push ⟨[s], 1, false, false⟩).n = H.n + 1 := rfl
 generalize H.push ⟨[s], 1, false, false⟩ = H1 at *
 subst hTT
 simp only [zZ, zY, q_b, q_f, q_m, q_U, ev, qb_p, qb_q, qb_A, qb_B, qb_C, if_true, if_false, Nat.reduceEqDiff, Nat.reduceLT]
 refine yiM H.n H.n s l 6 (by omega) (by omega) H1 _ h1 ?_
 intro v2 H2 e2 g2 s2
 have hm0 : (0 : Int) <= l.headD 0 % 6 := Int.emod_nonneg _ (by omega)
 have hm6 : l.headD 0 % 6 < 6 := Int.emod_lt_of_pos _ (by omega)
 generalize hmm : (l.headD 0 % 6).toNat = m
 have hm : l.headD 0 % 6 = (m : Int) := by omega
 have hm5 : m <= 5 := by omega
 rw [hm]
 have x2 : HExt H H2 := x1.trans' (by omega) fun b hb => g2 b (by omega)
 have n2 : H2.n = H.n + 1 := by omega
 refine yaz (fun k fr H' => ∃ vo fs sv sl, Strm H.n H' H.n sv sl /\ GF (H.n + 1) H' vo fs /\ fs.length = k /\ HExt H H' /\ H2.n <= H'.n /\ fr = [(3, .pointer (some ⟨H.n, 0, none⟩)), (4, vo), (15, .int .i64 (m : Int)), (16, .int .i64 (k : Int))]) m ⟨_, [], v2, _, s2, GF.nil _ _, rfl, x2, Nat.le_refl _, rfl⟩ ?_ ?_
 ·rintro k hk fr H3 ⟨vo, fs, sv, sl, s3, g3, hfl, x3, n3, rfl⟩ J hJ
  have hlt : (k : Int) < (m : Int) := by omega
  have w3 := wrS k (by omega)
  generalize hII : (XCode.ops [⟨some 52, .bin .add (.tmp 16) (.const (.int .i64 1)), none⟩, ⟨some 16, .mov (.tmp 52), none⟩] [3, 4, 15, 16]) = II
  unfold yb8
  rw [hII]
  generalize hTT : ((.seq (.ops (⟨some 25, _, _⟩ :: _) _) _) : XCode) = TT
  simp only [zZ, zY, q_b, q_d, q_B, q_U, q_W, ev, qb_p, qb_q, xbin, ibin, if_true, if_false, Nat.reduceEqDiff, Nat.reduceLT, hlt, decide_true]
  refine yiM H.n H.n sv sl 300 (by omega) (by omega) H3 _ s3 ?_
  intro v4 H4 e4 q4 s4
  refine yiM H.n H.n v4 sl.tail 256 (by omega) (by omega) H4 _ s4 ?_
  intro v5 H5 e5 q5 s5
  refine yiM H.n H.n v5 sl.tail.tail 9 (by omega) (by omega) H5 _ s5 ?_
  intro v6 H6 e6 q6 s6
  have a0 : (0 : Int) <= sl.headD 0 % 300 := Int.emod_nonneg _ (by omega)
  have a1 : sl.headD 0 % 300 < 300 := Int.emod_lt_of_pos _ (by omega)
  have b0 : (0 : Int) <= sl.tail.headD 0 % 256 := Int.emod_nonneg _ (by omega)
  have b1 : sl.tail.headD 0 % 256 < 256 := Int.emod_lt_of_pos _ (by omega)
  have c0 : (0 : Int) <= sl.tail.tail.headD 0 % 9 := Int.emod_nonneg _ (by omega)
  have c1 : sl.tail.tail.headD 0 % 9 < 9 := Int.emod_lt_of_pos _ (by omega)
  generalize hnn : (sl.headD 0 % 300).toNat = n
  have hn : sl.headD 0 % 300 = (n : Int) := by omega
  rw [hn]
  generalize sl.tail.headD 0 % 256 = x at *
  generalize sl.tail.tail.headD 0 % 9 = y at *
  have hn300 : n < 300 := by omega
  have g6 : GF (H.n + 1) H6 vo fs := g3.same (by omega) fun b h1 h2 => by rw [q6 b (by omega), q5 b (by omega), q4 b (by omega)]
  have x6 : HExt H H6 := x3.trans' (by omega) fun b hb => by rw [q6 b (by omega), q5 b (by omega), q4 b (by omega)]
  have hmk := ydQ (.int .u8 0) n (by omega) .i64 H6 (n : Int) rfl
  have x7 := yab H6 ⟨rep n [.int .u8 0], 1, false, false⟩
  have s7 : Strm H.n (H6.push ⟨rep n [.int .u8 0], 1, false, false⟩) H.n v6 sl.tail.tail.tail := s6.keep (n1 := H6.n) ⟨x7.1, x7.2⟩ (by have := s6.lt; omega)
  have o7 : OwnB H6.n (H6.push ⟨rep n [.int .u8 0], 1, false, false⟩) (.slice (some ⟨H6.n, 0, none⟩) n n) (List.replicate n 0) := by
   have hp := Own.pushed H6 (rep n [.int .u8 0]) 1 n false (by rw [yaB]; simp)
   unfold OwnB
   rw [ydL] at hp ⊢
   simpa using hp
  have g7 := g6.ext x7
  have n67 : H6.n <= (H6.push ⟨rep n [.int .u8 0], 1, false, false⟩).n := x7.1
  subst hTT
  generalize hTT : ((.seq (.seq (.ops (⟨some 27, _, _⟩ :: _) _) _) _) : XCode) = TT
  simp only [zZ, zY, qb_k, ev, if_true, if_false, Nat.reduceEqDiff, Nat.reduceLT, hmk]
  have x67 := x6.trans x7
  generalize H6.push ⟨rep n [.int .u8 0], 1, false, false⟩ = H7 at *
  have lw : pLen (.slice (some ⟨H6.n, 0, none⟩) n n) H7 = some (.int .i64 (n : Int), H7) := rfl
  subst hTT
  simp only [zZ, zY, q_b, q_j, q_W, q_X, qb_a, qb_f, ev, xbin, ibin, if_true, if_false, Nat.reduceEqDiff, Nat.reduceLT, lw]
  refine ynR H6.n n (by omega) x y b0 b1 c0 c1 _ _ _ _ _ _ H7 _ o7 n67 ?_
  intro H8 bb o8 k8
  have g68 : ∀ b, b < H6.n -> H8.get b = H6.get b := fun b hb => (k8.2 b hb).trans (x7.2 b hb)
  have n68 : H6.n <= H8.n := Nat.le_trans n67 k8.1
  have g8 : GF (H.n + 1) H8 vo fs := g6.same n68 fun b h1 h2 => g68 b h2
  have s8 : Strm H.n H8 H.n v6 sl.tail.tail.tail := s6.keep (n1 := H6.n) ⟨n68, g68⟩ (by have := s6.lt; omega)
  have x8 : HExt H H8 := x6.trans' n68 fun b hb => g68 b (by have := s6.lt; omega)
  have w97 := wrI (97 + (k : Int)) (by omega) (by omega)
  have w97' := wrI32 (97 + (k : Int)) (by omega) (by omega)
  have ru := rune5 k (by omega)
  have sf := ynd k
  obtain ⟨u1, u2⟩ := yan o8.1
  have hall : ([.string (sB (nmF k)), .slice (some ⟨H6.n, 0, none⟩) n n] : List Value).all one = true := by simp only [List.all_cons, List.all_nil, u1, ybp]; rfl
  simp only [zZ, zY, q_h, q_k, q_F, ev, if_true, if_false, Nat.reduceEqDiff, Nat.reduceLT, Nat.zero_add, Nat.reduceAdd, w97, pConv, w97', ypz ty21 ty9, ru, ylu, sf, vb, vbs, qb_X, qb_Y, qb_Z, ybp, ygy, u1, u2, eq_self, List.length_cons, List.length_nil, List.set_cons_zero, List.set_cons_succ, List.map_cons, List.map_nil, Nat.zero_mul, rep_1]
  rw [ycY (n := 2) hall rfl rfl]
  simp only [q_q, zC]
  have hwv : ∀ b, inB (.slice (some ⟨H6.n, 0, none⟩) n n) b -> ¬ inB vo b := fun c hc hv => by
   have h1 : H6.n <= c := Own.geB o8 hc
   have h2 := g6.out.own.1.lt hv
   omega
  have hH6 : H.n + 1 <= H6.n := by have := s6.lt; omega
  refine OutE.push (n1 := 0) g8.out (by omega) ⟨nmF k, .slice (some ⟨H6.n, 0, none⟩) n n, datP x y n⟩ o8.1 hwv (by omega) ?_
  intro vo' H9 o9 k9
  subst hII
  simp only [zZ, zY, q_W, ev, xbin, ibin, if_true, if_false, Nat.reduceEqDiff, Nat.reduceLT, w3]
  refine hJ _ _ ⟨vo', fs ++ [⟨nmF k, .slice (some ⟨H6.n, 0, none⟩) n n, datP x y n⟩], v6, _, s8.keep k9 (by omega), ⟨o9, fun i p hi => ?_, by simp; omega, fun p hp => ?_, fun p hp b hb => ?_⟩, by simp; omega, x8.trans' k9.1 fun b hb => k9.2 b (by omega), by have := k9.1; omega, rfl⟩
  ·rcases Nat.lt_or_ge i fs.length with h1 | h1
   ·rw [List.getElem?_append_left h1] at hi
    exact g8.nms i p hi
   ·have : i = fs.length := by have := (List.getElem?_eq_some_iff.1 hi).1; simp at this; omega
    subst this
    rw [List.getElem?_append_right (Nat.le_refl _), Nat.sub_self] at hi
    cases hi
    rw [hfl]
  ·rcases List.mem_append.1 hp with h | h
   ·exact g8.dts p h
   ·rw [List.mem_singleton.1 h]
    exact ⟨by show (datP x y n).length < 300; rw [yfb]; exact hn300, ypl x y n⟩
  ·rcases List.mem_append.1 hp with h | h
   ·exact g8.ge p h b hb
   ·rw [List.mem_singleton.1 h] at hb
    have := Own.geB o8 hb
    omega
 ·rintro fr H3 ⟨vo, fs, sv, sl, s3, g3, hfl, x3, n3, rfl⟩
  simp only [zZ, zY, yb8, q_b, q_e, q_h, q_j, q_k, q_C, q_U, q_W, q_X, qb_a, qb_f, qb_k, ev, qb_p, qb_q, xbin, ibin, resV, qb_D, if_true, if_false, Nat.reduceEqDiff, Nat.reduceLT, Int.lt_irrefl, decide_false]
  exact hq vo fs H3 g3 x3
theorem yeu (P : Program) (T : XTab) (n : Nat) (vs : List Value) (H : AH) : pCallV (xc P T) (.func (.func n) #[] #[]) vs H = xc P T n vs H := congrArg (fun l => xc P T n l H) (by simp : ([] : List Value) ++ vs ++ [] = vs)
theorem ynS (p q : FE) (H : AH) (Q : Value -> AH -> Prop) (hp : Byts H p.w p.dt) (hqb : Byts H q.w q.dt) (hn : B8 p.nm) (he : p.told = q.told) (hl : p.dt.length <= 1000000) (hq : ∀ H', HExt H H' -> Q (.bool true) H') :
  Got (xc Tryz.prog tab 50 [.agg #[.string (sB p.nm), p.w], .agg #[.string (sB q.nm), q.w]] H) Q := by
 have e1 : q.nm = p.nm := (congrArg Prod.fst he).symm
 have e2 : q.dt = p.dt := (congrArg Prod.snd he).symm
 refine yac (res := [.tmp 4]) rfl ?_
 have vA : vcells (.agg #[.string (sB p.nm), p.w]) = [.string (sB p.nm), p.w] := rfl
 have vB : vcells (.agg #[.string (sB q.nm), q.w]) = [.string (sB q.nm), q.w] := rfl
 have b1 := Bx.new H [.string (sB p.nm), p.w]
 have x1 := yab H ⟨[.string (sB p.nm), p.w], 1, false, false⟩
 have n1 : (H.push ⟨[.string (sB p.nm), p.w], 1, false, false⟩).n = H.n + 1 := rfl
 have b2 := Bx.new (H.push ⟨[.string (sB p.nm), p.w], 1, false, false⟩) [.string (sB q.nm), q.w]
 have x2 := yab (H.push ⟨[.string (sB p.nm), p.w], 1, false, false⟩) ⟨[.string (sB q.nm), q.w], 1, false, false⟩
 rw [n1] at b2
 generalize hTT : ((.seq (.ops (⟨some 5, _, _⟩ :: _) _) _) : XCode) = TT
 simp only [zZ, zY, ofArgs, qb_j, ev, if_true, if_false, reduceCtorEq, Nat.reduceEqDiff, Nat.reduceLT, Nat.zero_add, vA, vB, n1]
 have b1' := b1.ext x2
 have x12 := x1.trans x2
 generalize (H.push ⟨[.string (sB p.nm), p.w], 1, false, false⟩).push ⟨[.string (sB q.nm), q.w], 1, false, false⟩ = H2 at *
 have l1 := b1'.ld 0 _ rfl
 have l2 := b1'.ld 1 _ rfl
 have l3 := b2.ld 0 _ rfl
 have l4 := b2.ld 1 _ rfl
 have hs : sbin .eql (sB p.nm) (sB q.nm) = some (.bool true) := by rw [e1]; exact (ylR hn hn).trans (by simp)
 have hq2 : Byts H2 q.w p.dt := by rw [<- e2]; exact Sl.ext x12 hqb
 have heq := ymF p.dt p.dt p.w q.w H2 (Sl.ext x12 hp) hq2 hl hl
 rw [decide_eq_true rfl] at heq
 subst hTT
 simp only [zZ, zY, q_f, q_m, q_r, q_U, q_W, v_ld, qb_h, qb_o, ev, qb_p, qb_q, xbin, ibin, qb_A, qb_B, qb_C, resV, qb_D, if_true, if_false, Nat.reduceEqDiff, Nat.reduceLT, fldAk, l1, l2, l3, l4, hs, heq]
 exact hq H2 x12
set_option maxHeartbeats 4000000 in
theorem yoy (l m : List FE) (a b : Value) (H : AH) (Q : Value -> AH -> Prop) (ha : Fils H a l) (hb : Fils H b m) (he : l.map FE.told = m.map FE.told) (hl : ∀ p ∈ l, p.dt.length <= 1000000) (hll : l.length <= 1000) (hq : ∀ H', HExt H H' -> Q (.bool true) H') :
  Got (xc Tryz.prog tab 18 [a, b] H) Q := by
 have hlen : m.length = l.length := by have := congrArg List.length he; simpa using this.symm
 refine yac (res := [.tmp 4]) rfl ?_
 simp only [zZ, zY, ofArgs, q_f, q_m, q_U, ev, qb_p, qb_q, qb_A, qb_B, qb_C, resV, qb_D, if_true, if_false, reduceCtorEq, Nat.reduceEqDiff, Nat.reduceLT, Nat.zero_add]
 refine yac (res := [.tmp 6]) rfl ?_
 have la := ybC ha.1
 have lb := ybC hb.1
 simp only [zZ, zY, ofArgs, q_b, q_d, q_f, q_m, q_C, q_W, q_X, ev, xbin, ibin, qb_A, qb_B, qb_C, if_true, if_false, reduceCtorEq, Nat.reduceEqDiff, Nat.reduceLT, Nat.zero_add, Nat.reduceAdd, la, lb, hlen, bne_self_eq_false]
 refine yaz (fun k fr H' => HExt H H' /\ fr = [(1, b), (2, .func (.func 50) #[] #[]), (15, a), (16, .int .i64 (l.length : Int)), (17, .int .i64 (k : Int))]) l.length ⟨HExt.refl H, rfl⟩ ?_ ?_
 ·rintro k hk fr H1 ⟨x1, rfl⟩ J hJ
  have hlt : (k : Int) < (l.length : Int) := by omega
  have w3 := wrS k (by omega)
  obtain ⟨p, hp⟩ : ∃ p, l[k]? = some p := ⟨_, List.getElem?_eq_getElem hk⟩
  obtain ⟨q, hq'⟩ : ∃ q, m[k]? = some q := ⟨_, List.getElem?_eq_getElem (by omega)⟩
  have hpq : p.told = q.told := by
   have : (l.map FE.told)[k]? = (m.map FE.told)[k]? := by rw [he]
   rw [List.getElem?_map, List.getElem?_map, hp, hq'] at this
   exact Option.some.inj this
  have ha1 := ha.ext x1
  have hb1 := hb.ext x1
  have i1 := SL.at ha1.1 .i64 (k : Int) k rfl hk
  have i2 := SL.ldk ha1.1 k p hp
  have hz2 : FLS.sz = 2 := rfl
  have hf : ∀ p, FLS.f p = [.string (sB p.nm), p.w] := fun _ => rfl
  rw [hz2] at i1 i2
  rw [hf] at i2
  obtain ⟨o1, o2⟩ := yan (ha1.2.1 p (List.mem_of_getElem? hp))
  have hall : ([.string (sB p.nm), p.w] : List Value).all one = true := by simp only [List.all_cons, List.all_nil, o1, ybp]; rfl
  obtain ⟨u1, u2⟩ := yan (hb1.2.1 q (List.mem_of_getElem? hq'))
  have hall2 : ([.string (sB q.nm), q.w] : List Value).all one = true := by simp only [List.all_cons, List.all_nil, u1, ybp]; rfl
  have st1 := (Bx.new H1 [.string (ByteArray.mk #[]), .slice none 0 0]).stn 2 [.string (sB p.nm), p.w] rfl rfl hall
  have b2 := Bx.mk H1 [.string (ByteArray.mk #[]), .slice none 0 0] [.string (sB p.nm), p.w]
  have x2 : HExt H1 ((H1.push ⟨[.string (ByteArray.mk #[]), .slice none 0 0], 1, false, false⟩).set H1.n ⟨[.string (sB p.nm), p.w], 1, false, false⟩) :=
   (yab H1 _).trans' (Nat.le_refl _) fun b hb => by rw [AH.get_set, if_neg (by omega)]
  simp only [zZ, zY, yaj, q_b, q_d, q_B, q_J, q_W, q_Z, v_ld, v_st, qb_i, ev, qb_v, xbin, ibin, if_true, if_false, Nat.reduceEqDiff, Nat.reduceLT, hlt, decide_true, i1, i2, st1]
  generalize (H1.push ⟨[.string (ByteArray.mk #[]), .slice none 0 0], 1, false, false⟩).set H1.n ⟨[.string (sB p.nm), p.w], 1, false, false⟩ = H2 at *
  have hb2 := hb1.ext x2
  have i3 := SL.at hb2.1 .i64 (k : Int) k rfl (by rw [hlen]; exact hk)
  have i4 := SL.ldk hb2.1 k q hq'
  rw [hz2] at i3 i4
  rw [hf] at i4
  have st2 := (Bx.new H2 [.string (ByteArray.mk #[]), .slice none 0 0]).stn 2 [.string (sB q.nm), q.w] rfl rfl hall2
  have b3 := Bx.mk H2 [.string (ByteArray.mk #[]), .slice none 0 0] [.string (sB q.nm), q.w]
  have x3 : HExt H2 ((H2.push ⟨[.string (ByteArray.mk #[]), .slice none 0 0], 1, false, false⟩).set H2.n ⟨[.string (sB q.nm), q.w], 1, false, false⟩) :=
   (yab H2 _).trans' (Nat.le_refl _) fun b hb => by rw [AH.get_set, if_neg (by omega)]
  have b23 := b2.ext x3
  simp only [q_q, i3, i4, st2]
  generalize (H2.push ⟨[.string (ByteArray.mk #[]), .slice none 0 0], 1, false, false⟩).set H2.n ⟨[.string (sB q.nm), q.w], 1, false, false⟩ = H3 at *
  have ld1 := b23.ldn 2 rfl
  have ld2 := b3.ldn 2 rfl
  have x13 := x2.trans x3
  simp only [q_q, ev, qb_p, qb_q, qb_r, zB, zC, if_true, if_false, Nat.reduceEqDiff, ld1, ld2, yd8, yeu]
  refine ynS p q H3 _ (Sl.ext x13 (ha1.2.1 p (List.mem_of_getElem? hp))) (Sl.ext x13 (hb1.2.1 q (List.mem_of_getElem? hq'))) (ha1.2.2 p (List.mem_of_getElem? hp)).1 hpq (hl p (List.mem_of_getElem? hp)) ?_
  intro H4 x4
  simp only [zZ, zY, q_d, q_j, q_C, q_E, zE, ev, if_true, if_false, Nat.reduceEqDiff, Nat.reduceLT, w3]
  exact hJ _ _ ⟨x1.trans (x13.trans x4), rfl⟩
 ·rintro fr H1 ⟨x1, rfl⟩
  simp only [zZ, zY, yaj, q_b, q_e, q_h, q_k, q_C, q_J, q_W, q_Z, v_ld, v_st, qb_i, ev, qb_v, xbin, ibin, resV, qb_D, if_true, if_false, Nat.reduceEqDiff, Nat.reduceLT, Int.lt_irrefl, decide_false]
  exact hq H1 x1
theorem yjN (H : AH) (Q : Value -> AH -> Prop) (hq : ∀ H', HExt H H' -> Q (.int .i64 1) H') : Got (xc Tryz.prog tab 100 [.agg #[.int .i64 0, .int .i64 0, .slice none 0 0]] H) Q := by
 refine yac (res := [.tmp 2]) rfl ?_
 have vA : vcells (.agg #[.int .i64 0, .int .i64 0, .slice none 0 0]) = [.int .i64 0, .int .i64 0, .slice none 0 0] := rfl
 have b := Bx.new H [.int .i64 0, .int .i64 0, .slice none 0 0]
 have x := yab H ⟨[.int .i64 0, .int .i64 0, .slice none 0 0], 1, false, false⟩
 generalize hTT : ((.seq (.seq (.ops (⟨some 16, _, _⟩ :: _) _) _) _) : XCode) = TT
 simp only [zZ, zY, ofArgs, q_U, q_W, v_ld, qb_j, ev, qb_p, qb_q, xbin, ibin, if_true, if_false, reduceCtorEq, Nat.reduceEqDiff, Nat.reduceLT, vA]
 generalize H.push ⟨[.int .i64 0, .int .i64 0, .slice none 0 0], 1, false, false⟩ = H1 at *
 have ldn := b.ldn 3 rfl
 simp only [q_q, ldn]
 refine yiT H1 _ ?_
 intro H2 x2
 have cb : ((1 : Int) != 0) = true := rfl
 simp only [zZ, zY, q_f, q_i, q_m, q_B, ev, qb_A, qb_B, qb_C, resV, qb_D, if_true, if_false, Nat.reduceEqDiff, Nat.reduceLT, cb]
 exact hq H2 (x.trans x2)
theorem yiY (H : AH) (Q : Value -> AH -> Prop) (hq : ∀ H', HExt H H' -> Q (.int .i64 1) H') : Got (xc Tryz.prog tab 63 [.agg #[.int .i64 0, .int .i64 0, .slice none 0 0]] H) Q := by
 refine yac (res := [.tmp 2]) rfl ?_
 have vA : vcells (.agg #[.int .i64 0, .int .i64 0, .slice none 0 0]) = [.int .i64 0, .int .i64 0, .slice none 0 0] := rfl
 have b := Bx.new H [.int .i64 0, .int .i64 0, .slice none 0 0]
 have x := yab H ⟨[.int .i64 0, .int .i64 0, .slice none 0 0], 1, false, false⟩
 generalize hTT : ((.seq (.ops (⟨some 15, _, _⟩ :: _) _) _) : XCode) = TT
 simp only [zZ, zY, ofArgs, q_U, q_W, v_ld, qb_j, ev, qb_p, qb_q, xbin, ibin, if_true, if_false, reduceCtorEq, Nat.reduceEqDiff, Nat.reduceLT, vA]
 generalize H.push ⟨[.int .i64 0, .int .i64 0, .slice none 0 0], 1, false, false⟩ = H1 at *
 have ldn := b.ldn 3 rfl
 simp only [q_q, ldn]
 refine yjN H1 _ ?_
 intro H2 x2
 have cb : ((1 : Int) != 0) = true := rfl
 simp only [zZ, zY, q_f, q_i, q_m, q_B, ev, qb_A, qb_B, qb_C, resV, qb_D, if_true, if_false, Nat.reduceEqDiff, Nat.reduceLT, cb]
 exact hq H2 (x.trans x2)
structure Chd (H0 : Nat) (H' : AH) (w vo : Value) (L : List (List Int)) (ps : List PF) (fs : List FE) (n0 n1 : Nat) : Prop where
 cd : CD n0 5 6 H' w L ps
 gf : GF n1 H' vo fs
 told : ps.map (fun p => (p.nm, p.dt)) = fs.map FE.told
 below : 0 < fs.length -> ∀ b, inB vo b -> b < n0
 len : L.length = 30
 room : roomP L + 3 * ps.length >= 20
 pos : H0 <= n0 /\ H0 <= n1
set_option maxHeartbeats 8000000 in
theorem yly (l : List Int) (s : Value) (H : AH) (Q : Value -> AH -> Prop) (hs : Ints H s l) (hq : ∀ w vo L ps fs n0 n1 H', Chd H.n H' w vo L ps fs n0 n1 -> HExt H H' -> Q (.tuple [.agg #[.int .i64 5, .int .i64 6, w], vo, .bool true].toArray) H') :
  Got (xc Tryz.prog tab 26 [s] H) Q := by
 refine yac (res := [.cell 2 (some 3), .tmp 3, .tmp 4]) rfl ?_
 have b1 := Bx.new H [.int .i64 0, .int .i64 0, .slice none 0 0]
 have x1 := yab H ⟨[.int .i64 0, .int .i64 0, .slice none 0 0], 1, false, false⟩
 have n1 : (H.push ⟨[.int .i64 0, .int .i64 0, .slice none 0 0], 1, false, false⟩).n = H.n + 1 := rfl
 generalize hTT : ((.seq (.seq (.ops (⟨some 14, _, _⟩ :: _) _) _) _) : XCode) = TT
 simp only [zZ, zY, ofArgs, q_U, q_Y, v_st, qb_i, ev, qb_p, qb_q, qb_v, if_true, if_false, reduceCtorEq, Nat.reduceEqDiff, Nat.reduceLT]
 generalize H.push ⟨[.int .i64 0, .int .i64 0, .slice none 0 0], 1, false, false⟩ = H1 at *
 refine cNew 5 6 (by omega) (by omega) (by omega) (by omega) 30 (by rfl) (by omega) (by omega) H1 _ ?_
 intro w0 L0 H2 c2 hl0 hr0 x2
 have b2 := b1.ext x2
 have ow : one w0 = true /\ vcells w0 = [w0] := by obtain ⟨vs, d⟩ := c2.dk; exact yan d.own.1
 have hall : ([.int .i64 5, .int .i64 6, w0] : List Value).all one = true := by simp only [List.all_cons, List.all_nil, ow.1, yaR]; rfl
 have st5 := (Bx.new H2 [.int .i64 0, .int .i64 0, .slice none 0 0]).stn 3 [.int .i64 5, .int .i64 6, w0] rfl rfl hall
 have b5 := Bx.mk H2 [.int .i64 0, .int .i64 0, .slice none 0 0] [.int .i64 5, .int .i64 6, w0]
 have x3 : HExt H2 ((H2.push ⟨[.int .i64 0, .int .i64 0, .slice none 0 0], 1, false, false⟩).set H2.n ⟨[.int .i64 5, .int .i64 6, w0], 1, false, false⟩) :=
  (yab H2 _).trans' (Nat.le_refl _) fun b hb => by rw [AH.get_set, if_neg (by omega)]
 have n3 : ((H2.push ⟨[.int .i64 0, .int .i64 0, .slice none 0 0], 1, false, false⟩).set H2.n ⟨[.int .i64 5, .int .i64 6, w0], 1, false, false⟩).n = H2.n + 1 := rfl
 simp only [q_q, q_P, q_Q, st5]
 generalize (H2.push ⟨[.int .i64 0, .int .i64 0, .slice none 0 0], 1, false, false⟩).set H2.n ⟨[.int .i64 5, .int .i64 6, w0], 1, false, false⟩ = H3 at *
 have l5 := b5.ld 2 _ rfl
 have c3 := c2.ext x3
 have hl3 := c3.secs.len
 rw [hl0] at hl3
 have hc30 : ((((30 : Nat) : Int)) != 30) = false := rfl
 subst hTT
 generalize hTT : ((.seq (.seq (.ops (⟨some 25, _, _⟩ :: _) _) _) _) : XCode) = TT
 simp only [zZ, zY, q_d, q_t, q_C, q_U, q_W, q_X, v_ld, qb_h, qb_o, ev, qb_p, qb_q, xbin, ibin, if_true, if_false, reduceCtorEq, Nat.reduceEqDiff, Nat.reduceLT, bne_self_eq_false, fldAk, l5, hl3, hc30]
 have x13 := (x1.trans x2).trans x3
 refine yn5 l s H3 _ (Sl.ext x13 hs) ?_
 intro vo fs H4 g4 x4
 have x14 := x13.trans x4
 have b24 := (b2.ext x3).ext x4
 have b54 := b5.ext x4
 have c4 := c3.ext x4
 have hln := ybC g4.out.own.1
 have n14 : H.n + 1 <= H2.n := by rw [<- n1]; exact x2.1
 have n24 : H3.n <= H4.n := x4.1
 subst hTT
 simp only [zZ, zY, q_b, q_f, q_m, q_X, ev, qb_A, if_true, if_false, Nat.reduceEqDiff, Nat.reduceLT, hln]
 refine yaz (fun k fr H' => ∃ w L ps n0, CD n0 5 6 H' w L ps /\ Bx H' H2.n [.int .i64 5, .int .i64 6, w] /\ GF (H3.n + 1) H' vo fs /\ ps.map (fun p => (p.nm, p.dt)) = (fs.take k).map FE.told /\ ps.length = k /\ (0 < k -> H4.n <= n0) /\ H1.n <= n0 /\ L.length = 30 /\ roomP L + 3 * k >= 20 /\ HExt H H' /\ Bx H' H.n [.int .i64 0, .int .i64 0, .slice none 0 0] /\ H4.n <= H'.n /\ fr = [(2, .pointer (some ⟨H.n, 0, none⟩)), (5, .pointer (some ⟨H2.n, 0, none⟩)), (7, vo), (25, vo), (26, .int .i64 (fs.length : Int)), (27, .int .i64 (k : Int))]) fs.length
  ⟨w0, L0, [], H1.n, c4, b54, g4, rfl, rfl, fun h => by omega, Nat.le_refl _, hl0, by omega, x14, b24, Nat.le_refl _, rfl⟩ ?_ ?_
 ·rintro k hk fr H5 ⟨w, L, ps, n0, c5, b5', g5, ht, hpl, hn0, hn1, hL, hrm, x5, b25, n5, rfl⟩ J hJ
  have hlt : (k : Int) < (fs.length : Int) := by omega
  have h5 := g4.len
  have w3 := wrS k (by omega)
  obtain ⟨p, hp⟩ : ∃ p, fs[k]? = some p := ⟨_, List.getElem?_eq_getElem hk⟩
  have hpm := List.mem_of_getElem? hp
  have hnm := g5.nms k p hp
  have hdt := g5.dts p hpm
  have hby := g5.out.byt p hpm
  have i1 := SL.at g5.out.own.1 .i64 (k : Int) k rfl hk
  have i2 := SL.ldk g5.out.own.1 k p hp
  have hz2 : FLS.sz = 2 := rfl
  have hf : ∀ p, FLS.f p = [.string (sB p.nm), p.w] := fun _ => rfl
  rw [hz2] at i1 i2
  rw [hf] at i2
  obtain ⟨o1, o2⟩ := yan hby
  have hall9 : ([.string (sB p.nm), p.w] : List Value).all one = true := by simp only [List.all_cons, List.all_nil, o1, ybp]; rfl
  have st9 := (Bx.new H5 [.string (ByteArray.mk #[]), .slice none 0 0]).stn 2 [.string (sB p.nm), p.w] rfl rfl hall9
  have b9 := Bx.mk H5 [.string (ByteArray.mk #[]), .slice none 0 0] [.string (sB p.nm), p.w]
  have x6 : HExt H5 ((H5.push ⟨[.string (ByteArray.mk #[]), .slice none 0 0], 1, false, false⟩).set H5.n ⟨[.string (sB p.nm), p.w], 1, false, false⟩) :=
   (yab H5 _).trans' (Nat.le_refl _) fun b hb => by rw [AH.get_set, if_neg (by omega)]
  generalize hII : ((.ops [⟨some 49, .bin .add (.tmp 27) (.const (.int .i64 1)), none⟩, ⟨some 27, .mov (.tmp 49), none⟩] [2, 5, 7, 25, 26, 27]) : XCode) = II
  unfold ybB
  rw [hII]
  generalize hTT : ((.seq (.ops (⟨some 32, _, _⟩ :: _) _) _) : XCode) = TT
  simp only [zZ, zY, q_b, q_d, q_B, q_W, q_Z, v_ld, v_st, qb_i, ev, qb_v, xbin, ibin, if_true, if_false, Nat.reduceEqDiff, Nat.reduceLT, hlt, decide_true, i1, i2, st9]
  generalize (H5.push ⟨[.string (ByteArray.mk #[]), .slice none 0 0], 1, false, false⟩).set H5.n ⟨[.string (sB p.nm), p.w], 1, false, false⟩ = H6 at *
  have l5 := (b5'.ext x6).ldn 3 rfl
  have l90 := b9.ld 0 _ rfl
  have l91 := b9.ld 1 _ rfl
  obtain ⟨nk1, nk2⟩ := yfA k (by omega)
  have hnew : ∀ q ∈ ps, q.nm ≠ p.nm := fun q hq e => by
   obtain ⟨j, hj⟩ := List.getElem?_of_mem hq
   have hjk : j < k := by have := (List.getElem?_eq_some_iff.1 hj).1; omega
   have h1 : (ps.map fun p => (p.nm, p.dt))[j]? = some (q.nm, q.dt) := by rw [List.getElem?_map, hj]; rfl
   rw [ht, List.getElem?_map, List.getElem?_take, if_pos hjk, List.getElem?_eq_getElem (by omega : j < fs.length)] at h1
   have h2 : (fs[j]'(by omega)).nm = q.nm := congrArg Prod.fst (Option.some.inj h1)
   have h3 := g5.nms j _ (List.getElem?_eq_getElem (by omega : j < fs.length))
   have := yj9 j k (by rw [<- h3, h2, e, hnm])
   omega
  have hneed : need p.dt.length <= 3 := by unfold need; omega
  have c6 := c5.ext x6
  subst hTT
  generalize hTT : ((.seq (.ops (⟨some 40, _, _⟩ :: _) _) _) : XCode) = TT
  simp only [zZ, zY, q_U, q_Y, v_ld, v_st, qb_h, ev, qb_p, qb_q, qb_v, if_true, if_false, Nat.reduceEqDiff, Nat.reduceLT, fldAk, l5, l90, l91]
  refine cPut c6 p.nm p.dt p.w (by rw [hnm]; exact nk1) (by rw [hnm]; exact nk2) (Sl.ext x6 hby) hdt.2 (by omega) (by omega) hnew (by omega) _ ?_
  intro w' L' p' H7 c7 e7 d7 hL' hr' _ _ x7
  have b7 := (b5'.ext x6).ext x7
  have ow7 : one w' = true /\ vcells w' = [w'] := by obtain ⟨vs, d⟩ := c7.dk; exact yan d.own.1
  have hall7 : ([.int .i64 5, .int .i64 6, w'] : List Value).all one = true := by simp only [List.all_cons, List.all_nil, ow7.1, yaR]; rfl
  have st7 := b7.stn 3 [.int .i64 5, .int .i64 6, w'] rfl rfl hall7
  have b8 := b7.set [.int .i64 5, .int .i64 6, w']
  have x57 := x6.trans x7
  have n57 := x57.1
  have hE : H2.n < H6.n := by have := x6.1; omega
  have c8 : CD H6.n 5 6 (H7.set H2.n ⟨[.int .i64 5, .int .i64 6, w'], 1, false, false⟩) w' L' (ps ++ [p']) := c7.set H2.n hE _
  have g8 : GF (H3.n + 1) (H7.set H2.n ⟨[.int .i64 5, .int .i64 6, w'], 1, false, false⟩) vo fs := (g5.ext x57).same (Nat.le_refl _) fun b h1 h2 => by rw [AH.get_set, if_neg (by omega)]
  have b28 : Bx (H7.set H2.n ⟨[.int .i64 5, .int .i64 6, w'], 1, false, false⟩) H.n [.int .i64 0, .int .i64 0, .slice none 0 0] := (b25.ext x57).same (Nat.le_refl _) (by rw [AH.get_set, if_neg (by omega)])
  have x8 : HExt H (H7.set H2.n ⟨[.int .i64 5, .int .i64 6, w'], 1, false, false⟩) := (x5.trans x57).trans' (Nat.le_refl _) fun b hb => by rw [AH.get_set, if_neg (by omega)]
  have n8 : H5.n <= (H7.set H2.n ⟨[.int .i64 5, .int .i64 6, w'], 1, false, false⟩).n := n57
  simp only [q_q, q_P, q_Q, st7]
  generalize H7.set H2.n ⟨[.int .i64 5, .int .i64 6, w'], 1, false, false⟩ = H8 at *
  have l8 := b8.ld 2 _ rfl
  have hl8 := c8.secs.len
  rw [hL', hL] at hl8
  subst hTT
  subst hII
  simp only [zZ, zY, q_d, q_j, q_t, q_C, q_W, q_X, v_ld, qb_h, qb_o, ev, xbin, ibin, if_true, if_false, Nat.reduceEqDiff, Nat.reduceLT, bne_self_eq_false, fldAk, l8, hl8, hc30, w3]
  refine hJ _ _ ⟨w', L', ps ++ [p'], H6.n, c8, b8, g8, ?_, by simp; omega, fun _ => by have := x6.1; omega, by have := x6.1; have := x4.1; have := x3.1; have := x2.1; omega, by omega, by omega, x8, b28, by omega, rfl⟩
  rw [List.map_append, ht, yal _ _ _ hp, List.map_append]
  congr 1
  show [(p'.nm, p'.dt)] = [(p.nm, p.dt)]
  rw [e7, d7]
 ·rintro fr H5 ⟨w, L, ps, n0, c5, b5', g5, ht, hpl, hn0, hn1, hL, hrm, x5, b25, n5, rfl⟩
  rw [List.take_length] at ht
  have l5 := b5'.ldn 3 rfl
  have ow5 : one w = true /\ vcells w = [w] := by obtain ⟨vs, d⟩ := c5.dk; exact yan d.own.1
  have hall5 : ([.int .i64 5, .int .i64 6, w] : List Value).all one = true := by simp only [List.all_cons, List.all_nil, ow5.1, yaR]; rfl
  have hvv : veq (.agg #[.int .i64 5, .int .i64 6, w]) (.agg #[.int .i64 5, .int .i64 6, w]) = true := by obtain ⟨vs, d⟩ := c5.dk; exact veqD 5 6 w (Sl.veq1 d.own.1)
  simp only [zZ, zY, ybB, q_b, q_e, q_h, q_k, q_C, q_U, q_W, q_Y, q_Z, v_ld, v_st, qb_h, qb_i, ev, qb_p, qb_q, qb_v, xbin, ibin, if_true, if_false, Nat.reduceEqDiff, Nat.reduceLT, Int.lt_irrefl, decide_false]
  refine ybQ _ _ _ _ _ ?_
  simp only [zZ, zY, q_U, q_W, v_ld, v_st, ev, qb_p, qb_q, qb_v, xbin, ibin, if_true, if_false, reduceCtorEq, Nat.reduceEqDiff, Nat.reduceLT, Nat.zero_add, Nat.reduceAdd, and_true, qb_E, qb_F, hs0, hs1, hs2, qb_G, qb_H, qb_I, qb_J, qb_K, qb_L, qb_M, l5, vb, qb_Y]
  refine yiY H5 _ ?_
  intro H6 x6
  have l6 := (b5'.ext x6).ldn 3 rfl
  have st2 := (b25.ext x6).stn 3 [.int .i64 5, .int .i64 6, w] rfl rfl hall5
  have b2r := (b25.ext x6).set [.int .i64 5, .int .i64 6, w]
  have lr := b2r.ldn 3 rfl
  have e11 : ((1 : Int) == 1) = true := rfl
  have hcell : ∀ (fr : Fr) (xs : List XRes), fr.get 2 = some (.pointer (some ⟨H.n, 0, none⟩)) -> xress fr (H6.set H.n ⟨[.int .i64 5, .int .i64 6, w], 1, false, false⟩) (.cell 2 (some 3) :: xs) = (xress fr (H6.set H.n ⟨[.int .i64 5, .int .i64 6, w], 1, false, false⟩) xs).map fun vs => .agg #[.int .i64 5, .int .i64 6, w] :: vs := by
   intro fr xs hfr
   rw [ybI fr _ 2 _ 0 (some 3) _ (.agg #[.int .i64 5, .int .i64 6, w]) xs hfr b2r.1 rfl]
  simp only [q_q, qb_r, zB, zC, qb_B, qb_C, resV, qb_D, if_true, if_false, Nat.reduceEqDiff, true_and, st2, l6, hvv, e11, hcell]
  have x56 := x5.trans x6
  have hE : H.n < n0 := by have := x1.1; omega
  have hb0 : (0 < fs.length -> ∀ b, inB vo b -> b < n0) := fun h b hb => by
   have h1 := hn0 h
   have h2 := g4.out.own.1.lt hb
   omega
  refine hq w vo L ps fs n0 (H3.n + 1) _ ⟨(c5.ext x6).set H.n hE _, (g5.ext x6).same (Nat.le_refl _) fun b h1 h2 => by rw [AH.get_set, if_neg (by omega)], ht, hb0, hL, by omega, by omega, by omega⟩ (x56.trans' (Nat.le_refl _) fun b hb => by rw [AH.get_set, if_neg (by omega)])
theorem mk3 {n0 : Nat} {T S : Int} {H : AH} {w : Value} {L : List (List Int)} {ps : List PF} (c : CD n0 T S H w L ps) : ∃ H', pSt 3 (.pointer (some ⟨H.n, 0, none⟩)) (.agg #[.int .i64 T, .int .i64 S, w]) (H.push ⟨[.int .i64 0, .int .i64 0, .slice none 0 0], 1, false, false⟩) = some (undef, H') /\ Bx H' H.n [.int .i64 T, .int .i64 S, w] /\ HExt H H' /\ CD n0 T S H' w L ps := by
 have ow : one w = true := by obtain ⟨vs, d⟩ := c.dk; exact (yan d.own.1).1
 have hall : ([.int .i64 T, .int .i64 S, w] : List Value).all one = true := by simp only [List.all_cons, List.all_nil, ow, yaR]; rfl
 have x : HExt H ((H.push ⟨[.int .i64 0, .int .i64 0, .slice none 0 0], 1, false, false⟩).set H.n ⟨[.int .i64 T, .int .i64 S, w], 1, false, false⟩) :=
  (yab H _).trans' (Nat.le_refl _) fun b hb => by rw [AH.get_set, if_neg (by omega)]
 exact ⟨_, (Bx.new H [.int .i64 0, .int .i64 0, .slice none 0 0]).stn 3 [.int .i64 T, .int .i64 S, w] rfl rfl hall, Bx.mk H _ _, x, c.ext x⟩
theorem Chd.nm {H0 : Nat} {H' : AH} {w vo : Value} {L : List (List Int)} {ps : List PF} {fs : List FE} {n0 n1 : Nat} (h : Chd H0 H' w vo L ps fs n0 n1) (i : Nat) (p : PF) (hp : ps[i]? = some p) : ∃ f, fs[i]? = some f /\ p.nm = f.nm /\ p.dt = f.dt /\ f.nm = nmF i := by
 have h1 : (ps.map fun p => (p.nm, p.dt))[i]? = some (p.nm, p.dt) := by rw [List.getElem?_map, hp]; rfl
 rw [h.told, List.getElem?_map] at h1
 cases hf : fs[i]? with
 | none => rw [hf] at h1; cases h1
 | some f =>
  rw [hf] at h1
  have h2 := Option.some.inj h1
  exact ⟨f, rfl, (congrArg Prod.fst h2).symm, (congrArg Prod.snd h2).symm, h.gf.nms i f hf⟩
theorem Chd.plen {H0 : Nat} {H' : AH} {w vo : Value} {L : List (List Int)} {ps : List PF} {fs : List FE} {n0 n1 : Nat} (h : Chd H0 H' w vo L ps fs n0 n1) : ps.length = fs.length := by have := congrArg List.length h.told; simpa using this
theorem Chd.ext {H0 : Nat} {H1 H' : AH} {w vo : Value} {L : List (List Int)} {ps : List PF} {fs : List FE} {n0 n1 : Nat} (h : Chd H0 H1 w vo L ps fs n0 n1) (x : HExt H1 H') : Chd H0 H' w vo L ps fs n0 n1 := ⟨h.cd.ext x, h.gf.ext x, h.told, h.below, h.len, h.room, h.pos⟩
theorem GF.fils {n1 : Nat} {H : AH} {v : Value} {l : List FE} (h : GF n1 H v l) : Fils H v l := ⟨h.out.own.1, h.out.byt, fun p hp => by
 obtain ⟨i, hi⟩ := List.getElem?_of_mem hp
 have hlt := (List.getElem?_eq_some_iff.1 hi).1
 have := h.len
 rw [h.nms i p hi]
 exact ⟨(yfA i (by omega)).2, (h.dts p hp).2⟩⟩
theorem yna {l : List FE} {ps : List PF} (h : l.map FE.told = ps.map fun p => (p.nm, p.dt)) (hp : ∀ p ∈ ps, p.dt.length <= 1000000) : l.length = ps.length /\ ∀ f ∈ l, f.dt.length <= 1000000 := by
 refine ⟨by have := congrArg List.length h; simpa using this, fun f hf => ?_⟩
 have : f.told ∈ l.map FE.told := List.mem_map_of_mem hf
 rw [h] at this
 obtain ⟨p, hp', e⟩ := List.mem_map.1 this
 have e2 : p.dt = f.dt := congrArg Prod.snd e
 rw [<- e2]; exact hp p hp'
theorem CD.same {n0 : Nat} {T S : Int} {H H' : AH} {v : Value} {L : List (List Int)} {ps : List PF} (h : CD n0 T S H v L ps) (hn : H.n <= H'.n) (hg : ∀ b, n0 <= b -> b < H.n -> H'.get b = H.get b) : CD n0 T S H' v L ps := by
 refine ⟨?_, h.rp, h.t1, h.t2, h.s1, h.s2, h.ll, h.pl⟩
 obtain ⟨vs, d⟩ := h.dk
 refine ⟨vs, d.same hn (fun b hb => hg b (Own.geB d.own hb) (d.own.1.lt hb)) fun i x hx b hb => ?_⟩
 have hi : i < L.length := by have := (List.getElem?_eq_some_iff.1 hx).1; rw [<- d.len]; exact this
 exact hg b (d.ge i x hi hx hb) (d.lt i x hx hb)
def nod (L : List (List Int)) (i : Nat) : List Int := ((L.getD (2 + i / 8) []).drop (16 * (i % 8))).take 16
theorem ycE (L : List (List Int)) (k : Nat) (h8 : ∀ l ∈ L, SecOk l) (hk : 2 + k / 8 < L.length) : (nod L k).length = 16 := by
 have := (h8 _ (List.getElem_mem hk)).1
 unfold nod
 rw [yaa (List.getElem?_eq_getElem hk), List.length_take, List.length_drop]
 have hm := Nat.mod_lt k (by omega : 0 < 8)
 omega
theorem yfe (T S : Int) (v x : Value) (l : List Int) (k : Nat) (hk2 : k < 100) (H : AH) (Q : Value -> AH -> Prop)
  (e1 : pIdx 1 v (.int .i64 ((2 + k / 8 : Nat) : Int)) (H.push ⟨[.int .i64 T, .int .i64 S, v], 1, false, false⟩) = some (ptrAt v (2 + k / 8), H.push ⟨[.int .i64 T, .int .i64 S, v], 1, false, false⟩))
  (e2 : pLd none (ptrAt v (2 + k / 8)) (H.push ⟨[.int .i64 T, .int .i64 S, v], 1, false, false⟩) = some (x, H.push ⟨[.int .i64 T, .int .i64 S, v], 1, false, false⟩))
  (hx : Byts (H.push ⟨[.int .i64 T, .int .i64 S, v], 1, false, false⟩) x l) (hl : l.length = 128)
  (hq : ∀ H' s', H' = H.push ⟨[.int .i64 T, .int .i64 S, v], 1, false, false⟩ -> Byts H' s' ((l.drop (16 * (k % 8))).take 16) -> (∀ j, ptrAt s' j = ptrAt x (16 * (k % 8) + j)) -> (∀ b, inB s' b ↔ inB x b) ->
   (∃ B o c c', x = .slice (some ⟨B, o, none⟩) 128 c /\ s' = .slice (some ⟨B, o + 16 * (k % 8), none⟩) 16 c' /\ 16 <= c' /\ 16 * (k % 8) + c' = c) -> Q s' H') :
  Got (xc Tryz.prog tab 37 [.agg #[.int .i64 T, .int .i64 S, v], .int .i64 (k : Int)] H) Q := by
 refine yac (res := [.tmp 4]) rfl ?_
 have vA : vcells (.agg #[.int .i64 T, .int .i64 S, v]) = [.int .i64 T, .int .i64 S, v] := rfl
 have b := Bx.new H [.int .i64 T, .int .i64 S, v]
 simp only [zZ, zY, ofArgs, q_f, q_m, q_L, q_M, q_N, q_O, Bool.false_and, zE, cond_false, q_W, q_Z, v_ld, qb_e, qb_h, qb_j, ev, xbin, ibin, qb_A, qb_B, qb_C, resV, qb_D, if_true, if_false, reduceCtorEq, Nat.reduceEqDiff, Nat.reduceLT, Nat.zero_add, vA]
 generalize hH1 : H.push ⟨[.int .i64 T, .int .i64 S, v], 1, false, false⟩ = H1 at *
 have l2 := b.ld 2 v rfl
 have q1 : IntKind.i64.wrap ((k : Int).tdiv 8) = ((k / 8 : Nat) : Int) := quoN k 8 (by omega)
 have q2 : (k : Int).tmod 8 = ((k % 8 : Nat) : Int) := rfl
 have w1 : IntKind.i64.wrap (2 + ((k / 8 : Nat) : Int)) = ((2 + k / 8 : Nat) : Int) := by rw [wrI _ (by omega) (by omega)]; omega
 have w2 : IntKind.i64.wrap (((k % 8 : Nat) : Int) * 16) = ((16 * (k % 8) : Nat) : Int) := by rw [wrI _ (by omega) (by omega)]; omega
 have w3 : IntKind.i64.wrap (((16 * (k % 8) : Nat) : Int) + 16) = ((16 * (k % 8) + 16 : Nat) : Int) := by rw [wrI _ (by omega) (by omega)]; omega
 have n0 : ¬ ((8 : Int) = 0) := by decide
 have hm := Nat.mod_lt k (by omega : 0 < 8)
 obtain ⟨s', k1, k2, k3, k4, B, o, c, c', k5, k6, k7, k8⟩ := yed (lo := some (.int .i64 ((16 * (k % 8) : Nat) : Int))) (hi := some (.int .i64 ((16 * (k % 8) + 16 : Nat) : Int))) (i := 16 * (k % 8)) (h := 16 * (k % 8) + 16) hx (by omega) rfl rfl (by omega) (by omega)
 simp only [q_q, zC, if_true, if_false, fldAk, l2, n0, q1, q2, w1, w2, w3, e1, e2, k1]
 have h32 : 16 * (k % 8) + 16 - 16 * (k % 8) = 16 := by omega
 have hlen : ((l.drop (16 * (k % 8))).take 16).length = 16 := by rw [List.length_take, List.length_drop]; omega
 refine hq H1 s' rfl ?_ (fun j => by rw [k2, Nat.mul_one]) k3 ⟨B, o, c, c', by rw [k5, hl], by rw [k6, h32, Nat.mul_one], by omega, by omega⟩
 rw [h32, Nat.mul_one, Nat.mul_one] at k4
 unfold Byts
 rw [hlen, List.map_take, List.map_drop]
 exact k4
theorem yjf (T S : Int) (v : Value) (L : List (List Int)) (k : Nat) (H0 H : AH) (x0 : HExt H0 H) (Q : Value -> AH -> Prop) (hs : Secs H0 v L) (h8 : ∀ l ∈ L, SecOk l) (hk : 2 + k / 8 < L.length) (hk2 : k < 100) (hq : ∀ H' s', HExt H H' -> Byts H0 s' (nod L k) -> Q s' H') :
  Got (xc Tryz.prog tab 37 [.agg #[.int .i64 T, .int .i64 S, v], .int .i64 (k : Int)] H) Q := by
 have x := yab H ⟨[.int .i64 T, .int .i64 S, v], 1, false, false⟩
 obtain ⟨e, e0, ee⟩ := hs.at' (2 + k / 8) hk
 obtain ⟨e1, e2, e3⟩ := ee _ (x0.trans x)
 have hl := (h8 _ (List.getElem_mem hk)).1
 refine yfe T S v e _ k hk2 H Q e1 e2 e3 hl ?_
 rintro H' s' rfl hb _ _ ⟨B, o, c, c', rfl, rfl, g1, g2⟩
 refine hq _ _ x ?_
 unfold nod
 rw [yaa (List.getElem?_eq_getElem hk)]
 have hm := Nat.mod_lt k (by omega : 0 < 8)
 have e0' : Byts H0 (.slice (some ⟨B, o, none⟩) (L[2 + k / 8]'hk).length c) (L[2 + k / 8]'hk) := by rw [hl]; exact e0
 exact yiZ e0' (by omega) (by omega) g1 g2
theorem ym8 (T S : Int) (v : Value) (L : List (List Int)) (k : Nat) (H : AH) (Q : Value -> AH -> Prop) (hs : Secs H v L) (h8 : ∀ l ∈ L, SecOk l) (hk : 2 + k / 8 < L.length) (hk2 : k < 100) (hq : ∀ H' s', HExt H H' -> Byts H' s' (nod L k) -> Q s' H') :
  Got (xc Tryz.prog tab 37 [.agg #[.int .i64 T, .int .i64 S, v], .int .i64 (k : Int)] H) Q :=
 yjf T S v L k H H (.refl H) Q hs h8 hk hk2 fun H' s' x h => hq H' s' x (Sl.ext x h)
def usd (L : List (List Int)) (i : Nat) : Bool := ((((L.getD 1 []).getD (i / 8) 0).toNat >>> (i % 8)) % 2 == 1)
theorem yoq (n : Int) (h0 : 0 <= n) (h1 : n < 256) (k : Nat) (hk : k < 8) : (IntKind.u8.wrap ((BitVec.ofInt IntKind.u8.bits (n.fdiv (2 ^ min k IntKind.u8.bits)) &&& BitVec.ofInt IntKind.u8.bits 1).toNat : Int) == 1) = ((n.toNat >>> k) % 2 == 1) := by
 have all : ((List.range 8).all fun k => (List.range 256).all fun m => (IntKind.u8.wrap ((BitVec.ofInt IntKind.u8.bits ((m : Int).fdiv (2 ^ min k IntKind.u8.bits)) &&& BitVec.ofInt IntKind.u8.bits 1).toNat : Int) == 1) == ((m >>> k) % 2 == 1)) = true := by kernel_rfl
 obtain ⟨m, rfl⟩ : ∃ m : Nat, n = m := ⟨n.toNat, by omega⟩
 have h := List.all_eq_true.1 (List.all_eq_true.1 all k (List.mem_range.2 hk)) m (List.mem_range.2 (by omega))
 simpa using h
theorem ykw (T S : Int) (v : Value) (L : List (List Int)) (k : Nat) (H : AH) (Q : Value -> AH -> Prop) (hs : Secs H v L) (h8 : ∀ l ∈ L, SecOk l) (hL : 1 < L.length) (hk2 : k < 1024) (hq : ∀ H', HExt H H' -> Q (.bool (usd L k)) H') :
  Got (xc Tryz.prog tab 93 [.agg #[.int .i64 T, .int .i64 S, v], .int .i64 (k : Int)] H) Q := by
 refine yac (res := [.tmp 4]) rfl ?_
 have vA : vcells (.agg #[.int .i64 T, .int .i64 S, v]) = [.int .i64 T, .int .i64 S, v] := rfl
 have b := Bx.new H [.int .i64 T, .int .i64 S, v]
 have x := yab H ⟨[.int .i64 T, .int .i64 S, v], 1, false, false⟩
 simp only [zZ, zY, ofArgs, q_f, q_m, q_W, q_Z, v_ld, qb_h, qb_j, ev, xbin, ibin, qb_A, qb_B, qb_C, resV, qb_D, if_true, if_false, reduceCtorEq, Nat.reduceEqDiff, Nat.reduceLT, Nat.zero_add, vA]
 generalize H.push ⟨[.int .i64 T, .int .i64 S, v], 1, false, false⟩ = H1 at *
 have l2 := b.ld 2 v rfl
 have q1 : IntKind.i64.wrap ((k : Int).tdiv 8) = ((k / 8 : Nat) : Int) := quoN k 8 (by omega)
 have q2 : (k : Int).tmod 8 = ((k % 8 : Nat) : Int) := rfl
 have hm8 := Nat.mod_lt k (by omega : 0 < 8)
 obtain ⟨e, e1, e2, e3⟩ := (Secs.ext x hs).at 1 1 rfl hL
 have h8' := h8 _ (List.getElem_mem hL)
 have hm : k / 8 < (L[1]'hL).length := by rw [h8'.1]; omega
 have e4 := yam e3 ((k / 8 : Nat) : Int) (k / 8) rfl hm
 have e5 := yaJ e3 (k / 8) _ (List.getElem?_eq_getElem hm)
 have n0 : ¬ ((8 : Int) = 0) := by decide
 have hb := h8'.2 _ (List.getElem_mem hm)
 have hu : usd L k = (((L[1]'hL)[k / 8]'hm).toNat >>> (k % 8) % 2 == 1) := by
  unfold usd
  rw [yaa (List.getElem?_eq_getElem hL), yaa (List.getElem?_eq_getElem hm)]
 have ub := yoq ((L[1]'hL)[k / 8]'hm) hb.1 hb.2 (k % 8) hm8
 have n1 : ¬ (((k % 8 : Nat) : Int) < 0) := by omega
 simp only [q_q, zC, if_true, if_false, fldAk, l2, n0, n1, q1, q2, e1, e2, e4, e5, Int.toNat_natCast, ub, <- hu]
 exact hq H1 x
def rngP (f n : Nat) : List Int := (List.range n).map fun i : Nat => ((f + i : Nat) : Int)
theorem ygH (f n : Nat) : rngP f (n + 1) = rngP f n ++ [((f + n : Nat) : Int)] := by unfold rngP; rw [List.range_succ, List.map_append]; rfl
theorem yc6 (f n : Nat) : (rngP f n).length = n := by simp [rngP]
def chP (ps : List (Nat × Nat)) : List Int := ps.flatMap fun p => rngP p.1 p.2
theorem yes (ps : List (Nat × Nat)) (p : Nat × Nat) : chP (ps ++ [p]) = chP ps ++ rngP p.1 p.2 := by simp [chP]
structure PcOk (N : Nat) (b : List Int) (ps : List (Nat × Nat)) : Prop where
 len : b.length = 16
 n4 : ps.length <= 4
 pc : ∀ k p, ps[k]? = some p -> b.getD (4 + 2 * k) 0 = (p.1 : Int) /\ b.getD (5 + 2 * k) 0 = (p.2 : Int) /\ 6 <= p.1 /\ 1 <= p.2 /\ p.1 + p.2 <= N
 z : ∀ k, ps.length <= k -> k < 4 -> b.getD (4 + 2 * k) 0 = 0 /\ b.getD (5 + 2 * k) 0 = 0
 b8 : B8 b
theorem ykn {N : Nat} {b : List Int} {ps : List (Nat × Nat)} (h : PcOk N b ps) : ∀ k, (chP (ps.take k)).length <= k * N := by
 intro k
 induction k with
 | zero => simp [chP]
 | succ k ih =>
  rcases Nat.lt_or_ge k ps.length with hk | hk
  ·have e : ps.take (k + 1) = ps.take k ++ [ps[k]] := by rw [List.take_add_one, List.getElem?_eq_getElem hk]; rfl
   obtain ⟨_, _, _, _, h5⟩ := h.pc k _ (List.getElem?_eq_getElem hk)
   rw [e, yes, List.length_append, yc6, Nat.add_mul]; omega
  ·rw [List.take_of_length_le (by omega)] at ih ⊢
   rw [Nat.add_mul]; omega
set_option maxHeartbeats 4000000 in
theorem ypG (a1 a2 a7 a13 : Value) (f n : Nat) (hf : f + n <= 240) (l : List Int) (hl : l.length <= 1000) (n0 : Nat) (w : Value) (H : AH) (Q : XExit -> Fr -> AH -> Prop) (ho : OwnI n0 H w l) (hn0 : n0 <= H.n)
  (hq : ∀ w' H', OwnI n0 H' w' (l ++ rngP f n) -> Keep n0 H H' -> Q (.exit 2) [(1, a1), (2, a2), (6, w'), (7, a7), (9, .int .i64 (f : Int)), (13, a13), (49, .int .i64 (n : Int)), (50, .int .i64 (n : Int)), (51, .bool false)] H') :
  Run Tryz.prog tab (.loop ybR) [(1, a1), (2, a2), (6, w), (7, a7), (9, .int .i64 (f : Int)), (13, a13), (49, .int .i64 (n : Int)), (50, .int .i64 0)] H Q := by
 refine yaz (fun k fr H' => ∃ w', OwnI n0 H' w' (l ++ rngP f k) /\ Keep n0 H H' /\ fr = [(1, a1), (2, a2), (6, w'), (7, a7), (9, .int .i64 (f : Int)), (13, a13), (49, .int .i64 (n : Int)), (50, .int .i64 (k : Int))]) n ⟨w, by simpa [rngP] using ho, .refl _ _, rfl⟩ ?_ ?_
 ·rintro k hk fr H1 ⟨w1, o1, k1, rfl⟩ J hJ
  have hlt : (k : Int) < (n : Int) := by omega
  have w3 := wrS k (by omega)
  have wf : IntKind.i64.wrap ((f : Int) + (k : Int)) = ((f + k : Nat) : Int) := by rw [wrI _ (by omega) (by omega)]; omega
  have hlen : (l ++ rngP f k).length <= 2000 := by rw [List.length_append, yc6]; omega
  have x3 := yab H1 ⟨[.int .i64 ((f + k : Nat) : Int)], 1, false, false⟩
  have o3 : OwnI n0 (H1.push ⟨[.int .i64 ((f + k : Nat) : Int)], 1, false, false⟩) w1 (l ++ rngP f k) := Own.ext x3 o1
  simp only [zZ, zY, ybR, q_b, q_d, q_j, q_B, q_W, qb_a, qb_d, pBs1, ev, xbin, ibin, if_true, if_false, Nat.reduceEqDiff, Nat.reduceLT, hlt, decide_true, wf]
  refine yc4 o3 (by have := k1.1; have := x3.1; omega) (Sl.pushed H1 [.int .i64 ((f + k : Nat) : Int)] 1 1 false false rfl) rfl (by decide) (by decide) (by omega) ?_
  intro w4 H4 o4 s4
  have k4 := s4.keep o3 (by have := k1.1; have := x3.1; omega)
  simp only [w3]
  refine hJ _ _ ⟨w4, ?_, k1.trans ((HExt.keep x3 (by have := k1.1; omega)).trans k4), rfl⟩
  rw [ygH, <- List.append_assoc]
  unfold OwnI
  simpa [Nat.add_assoc] using o4
 ·rintro fr H1 ⟨w1, o1, k1, rfl⟩
  simp only [zZ, zY, ybR, q_b, q_e, q_h, q_j, q_C, q_W, qb_a, qb_d, pBs1, ev, xbin, ibin, if_true, if_false, Nat.reduceEqDiff, Nat.reduceLT, Int.lt_irrefl, decide_false]
  exact hq w1 H1 o1 k1
set_option maxHeartbeats 8000000 in
theorem yfj (T S : Int) (v bv : Value) (L : List (List Int)) (b : List Int) (ps : List (Nat × Nat)) (H : AH) (Q : Value -> AH -> Prop) (hs : Secs H v L) (hN : L.length <= 240) (hb : Byts H bv b) (hp : PcOk L.length b ps)
  (hq : ∀ w H', OwnI H.n H' w (chP ps) -> HExt H H' -> Q (.tuple [w, .bool (((chP ps).length : Int) == (b.getD 2 0 * 256 + b.getD 3 0 + 127) / 128)].toArray) H') :
  Got (xc Tryz.prog tab 79 [.agg #[.int .i64 T, .int .i64 S, v], bv] H) Q := by
 refine yac (res := [.tmp 4, .tmp 5]) rfl ?_
 have vA : vcells (.agg #[.int .i64 T, .int .i64 S, v]) = [.int .i64 T, .int .i64 S, v] := rfl
 have b1 := Bx.new H [.int .i64 T, .int .i64 S, v]
 have x1 := yab H ⟨[.int .i64 T, .int .i64 S, v], 1, false, false⟩
 have n1 : (H.push ⟨[.int .i64 T, .int .i64 S, v], 1, false, false⟩).n = H.n + 1 := rfl
 generalize hTT : ((.seq (.dops (.mk ⟨some 61, _, _⟩ _ _ _ :: _) _) _) : XCode) = TT
 simp only [zZ, zY, ofArgs, q_b, qb_j, ev, if_true, if_false, reduceCtorEq, Nat.reduceEqDiff, Nat.reduceLT, Nat.zero_add, vA]
 generalize H.push ⟨[.int .i64 T, .int .i64 S, v], 1, false, false⟩ = H1 at *
 have len16 := hp.len
 have rd : ∀ {H' : AH}, HExt H H' -> ∀ j : Nat, j < 16 -> pIdx 1 bv (.int .i64 (j : Int)) H' = some (ptrAt bv j, H') /\ pLd none (ptrAt bv j) H' = some (.int .u8 (b.getD j 0), H') /\ (0 <= b.getD j 0 /\ b.getD j 0 < 256) := fun {H'} x j hj => by
  have hb' : Byts H' bv b := Sl.ext x hb
  have hjl : j < b.length := by omega
  refine ⟨yam hb' (j : Int) j rfl hjl, yaJ hb' j _ (ya6 b j hjl), ?_⟩
  rw [yaa (List.getElem?_eq_getElem hjl)]
  exact hp.b8 _ (List.getElem_mem hjl)
 refine yaz (fun k fr H' => ∃ w, OwnI (H.n + 1) H' w (chP (ps.take k)) /\ HExt H H' /\ Bx H' H.n [.int .i64 T, .int .i64 S, v] /\ fr = [(1, bv), (2, .pointer (some ⟨H.n, 0, none⟩)), (6, w), (7, .bool (decide (k <= ps.length))), (13, .int .i64 (k : Int))]) 4 ⟨.slice none 0 0, Own.nil _ _ _, x1, b1, by simp⟩ ?_ ?_
 ·rintro k hk fr H2 ⟨w, o2, x2, b2, rfl⟩ J hJ
  have hlt : (k : Int) < 4 := by omega
  have w3 := wrS k (by omega)
  have wa : IntKind.i64.wrap (4 + IntKind.i64.wrap (2 * (k : Int))) = ((4 + 2 * k : Nat) : Int) := by rw [wrI (2 * (k : Int)) (by omega) (by omega), wrI _ (by omega) (by omega)]; omega
  have wb : IntKind.i64.wrap (5 + IntKind.i64.wrap (2 * (k : Int))) = ((5 + 2 * k : Nat) : Int) := by rw [wrI (2 * (k : Int)) (by omega) (by omega), wrI _ (by omega) (by omega)]; omega
  obtain ⟨r1, r2, r3⟩ := rd x2 (4 + 2 * k) (by omega)
  obtain ⟨q1, q2, q3⟩ := rd x2 (5 + 2 * k) (by omega)
  have cv1 := fun H => ya5 .u8 (b.getD (4 + 2 * k) 0) (by omega) (by omega) H
  have cv2 := fun H => ya5 .u8 (b.getD (5 + 2 * k) 0) (by omega) (by omega) H
  have l2 := b2.ld 2 v rfl
  have lL := (Secs.ext x2 hs).len
  generalize hII : ((.ops [⟨some 60, .bin .add (.tmp 13) (.const (.int .i64 1)), none⟩, ⟨some 13, .mov (.tmp 60), none⟩] [1, 2, 6, 7, 13]) : XCode) = II
  unfold ycz
  rw [hII]
  generalize hTT : ((.seq (.seq (.ops (⟨some 30, _, _⟩ :: _) _) _) _) : XCode) = TT
  simp only [zZ, zY, q_b, q_d, q_B, q_W, ev, xbin, ibin, if_true, if_false, Nat.reduceEqDiff, Nat.reduceLT, hlt, decide_true]
  refine yaL _ _ _ _ _ rfl ?_
  simp only [zZ, zY, q_S, q_T, q_W, q_Z, v_ld, qb_f, ev, xbin, ibin, if_true, if_false, Nat.reduceEqDiff, Nat.reduceLT, wa, wb, r1, r2, q1, q2, cv1, cv2]
  subst hTT
  by_cases hk2 : k < ps.length
  ·obtain ⟨e1, e2, e3, e4, e5⟩ := hp.pc k _ (List.getElem?_eq_getElem hk2)
   rw [e1, e2]
   generalize hpp : ps[k] = p at *
   have d1 : decide (k <= ps.length) = true := decide_eq_true (by omega)
   have d2 : decide (k + 1 <= ps.length) = true := decide_eq_true (by omega)
   have c0 : (((p.2 : Nat) : Int) == 0) = false := by rw [beq_eq_false_iff_ne]; omega
   have c1 : ¬ ((p.1 : Nat) : Int) < 6 := by omega
   have ws : IntKind.i64.wrap ((p.1 : Int) + (p.2 : Int)) = ((p.1 + p.2 : Nat) : Int) := by rw [wrI _ (by omega) (by omega)]; omega
   have c2 : ¬ ((p.1 + p.2 : Nat) : Int) > (L.length : Int) := by omega
   have hcl := ykn hp k
   have hcl2 : k * L.length <= 4 * 240 := Nat.mul_le_mul (by omega) hN
   simp only [zZ, zY, q_b, q_d, q_t, q_C, q_E, q_J, zE, q_W, q_X, v_ld, qb_h, qb_o, ev, xbin, ibin, if_true, if_false, Nat.reduceEqDiff, Nat.reduceLT, d1, c0, c1, ws, fldAk, l2, lL, c2, decide_false]
   refine ypG _ _ _ _ p.1 p.2 (by omega) _ (by omega) (H.n + 1) w H2 _ o2 (by have := b2.2; omega) ?_
   intro w' H3 o3 k3
   subst hII
   simp only [zZ, zY, q_h, q_j, q_k, q_W, ev, xbin, ibin, if_true, if_false, Nat.reduceEqDiff, Nat.reduceLT, w3]
   refine hJ _ _ ⟨w', ?_, x2.trans' k3.1 (fun b hb => k3.2 b (by omega)), b2.same k3.1 (k3.2 _ (by omega)), by rw [d2]⟩
   have : ps.take (k + 1) = ps.take k ++ [p] := by rw [List.take_add_one, List.getElem?_eq_getElem hk2, hpp]; rfl
   rw [this, yes]
   exact o3
  ·obtain ⟨e1, e2⟩ := hp.z k (by omega) hk
   rw [e1, e2]
   have d2 : decide (k + 1 <= ps.length) = false := decide_eq_false (by omega)
   have c0 : ((0 : Int) == 0) = true := rfl
   have c1 : ((0 : Int) != 0) = false := rfl
   subst hII
   simp only [zZ, zY, q_b, q_d, q_e, q_h, q_k, q_B, q_C, q_J, q_W, ev, xbin, ibin, if_true, if_false, Nat.reduceEqDiff, Nat.reduceLT, c0, c1, w3]
   refine hJ _ _ ⟨w, ?_, x2, b2, by rw [d2]⟩
   rw [List.take_of_length_le (by omega)] at o2 ⊢
   exact o2
 ·rintro fr H2 ⟨w, o2, x2, b2, rfl⟩
  rw [List.take_of_length_le hp.n4] at o2
  have lw := yct o2.1
  obtain ⟨r1, r2, r3⟩ := rd x2 2 (by omega)
  obtain ⟨q1, q2, q3⟩ := rd x2 3 (by omega)
  have cv1 := fun H => ya5 .u8 (b.getD 2 0) (by omega) (by omega) H
  have cv2 := fun H => ya5 .u8 (b.getD 3 0) (by omega) (by omega) H
  have c4 : ¬ ((4 : Nat) : Int) < 4 := by omega
  subst hTT
  generalize hTT : ((.seq (.ops (⟨some 71, _, _⟩ :: _) _) _) : XCode) = TT
  simp only [zZ, zY, ycz, q_b, q_e, q_h, q_k, q_C, q_J, q_W, ev, xbin, ibin, if_true, if_false, Nat.reduceEqDiff, Nat.reduceLT, c4, decide_false]
  refine yaL _ _ _ _ _ rfl ?_
  have r1' : pIdx 1 bv (.int .i64 2) H2 = some (ptrAt bv 2, H2) := r1
  have q1' : pIdx 1 bv (.int .i64 3) H2 = some (ptrAt bv 3, H2) := q1
  have s8 := shl8 (b.getD 2 0) (by omega) (by omega)
  have n8 : ¬ ((8 : Int) < 0) := by decide
  have wz := wrI (b.getD 2 0 * 256 + b.getD 3 0) (by omega) (by omega)
  simp only [zZ, zY, q_S, q_T, q_W, q_Z, v_ld, qb_f, ev, xbin, ibin, if_true, if_false, Nat.reduceEqDiff, Nat.reduceLT, r1', r2, q1', q2, cv1, cv2, s8, n8, wz]
  subst hTT
  have w128 := wrI (b.getD 2 0 * 256 + b.getD 3 0 + 128) (by omega) (by omega)
  have w127 := wrI (b.getD 2 0 * 256 + b.getD 3 0 + 128 - 1) (by omega) (by omega)
  have wq : IntKind.i64.wrap ((b.getD 2 0 * 256 + b.getD 3 0 + 128 - 1).tdiv 128) = (b.getD 2 0 * 256 + b.getD 3 0 + 127) / 128 := by
   rw [Int.tdiv_eq_ediv_of_nonneg (by omega), wrI _ (by omega) (by omega)]
   omega
  have z128 : ¬ ((128 : Int) = 0) := by omega
  simp only [zZ, zY, q_f, q_m, q_W, q_X, ev, xbin, ibin, qb_A, qb_B, qb_C, resV, qb_D, if_true, if_false, Nat.reduceEqDiff, Nat.reduceLT, lw, w128, w127, wq, z128]
  exact hq w H2 (Own.le o2 (by omega)) x2
def nsz (b : List Int) : Int := b.getD 2 0 * 256 + b.getD 3 0
def cntP (L : List (List Int)) (b : List Int) (ps : List (Nat × Nat)) : List Int := (readL L (chP ps)).take (nsz b).toNat
theorem ykm {N : Nat} {b : List Int} {ps : List (Nat × Nat)} (h : PcOk N b ps) : ∀ i ∈ chP ps, 6 <= i /\ i < (N : Int) := by
 intro i hi
 unfold chP at hi
 rw [List.mem_flatMap] at hi
 obtain ⟨p, hp, hi⟩ := hi
 obtain ⟨k, hk⟩ := List.getElem?_of_mem hp
 obtain ⟨_, _, h3, h4, h5⟩ := h.pc k p hk
 unfold rngP at hi
 rw [List.mem_map] at hi
 obtain ⟨j, hj, rfl⟩ := hi
 have := List.mem_range.1 hj
 omega
theorem ylp (L : List (List Int)) (out : List Int) (i : Int) : readL L (out ++ [i]) = readL L out ++ L.getD i.toNat [] := by simp [readL]
set_option maxHeartbeats 8000000 in
theorem ylw (T S : Int) (v : Value) (L : List (List Int)) (i : Nat) (ps : List (Nat × Nat)) (H : AH) (Q : Value -> AH -> Prop) (hs : Secs H v L) (h8 : ∀ l ∈ L, SecOk l) (hN : L.length <= 240) (hi : 2 + i / 8 < L.length) (hi2 : i < 100) (hp : PcOk L.length (nod L i) ps)
  (hsz : (nsz (nod L i)).toNat <= 128 * (chP ps).length)
  (hq : ∀ w H', OwnB H.n H' w (cntP L (nod L i) ps) -> HExt H H' -> Q w H') :
  Got (xc Tryz.prog tab 38 [.agg #[.int .i64 T, .int .i64 S, v], .int .i64 (i : Int)] H) Q := by
 refine yac (res := [.tmp 4]) rfl ?_
 have vA : vcells (.agg #[.int .i64 T, .int .i64 S, v]) = [.int .i64 T, .int .i64 S, v] := rfl
 have b1 := Bx.new H [.int .i64 T, .int .i64 S, v]
 have x1 := yab H ⟨[.int .i64 T, .int .i64 S, v], 1, false, false⟩
 generalize hTT : ((.seq (.ops (⟨some 15, _, _⟩ :: _) _) _) : XCode) = TT
 simp only [zZ, zY, ofArgs, q_U, v_ld, qb_j, ev, qb_p, qb_q, if_true, if_false, reduceCtorEq, Nat.reduceEqDiff, Nat.reduceLT, Nat.zero_add, vA]
 generalize H.push ⟨[.int .i64 T, .int .i64 S, v], 1, false, false⟩ = H1 at *
 have l1 := b1.ldn 3 rfl
 simp only [q_q, l1]
 refine ym8 T S v L i H1 _ (Secs.ext x1 hs) h8 hi hi2 ?_
 intro H2 bv x2 hb
 have b2 := b1.ext x2
 have l2 := b2.ldn 3 rfl
 have x12 := x1.trans x2
 subst hTT
 generalize hTT : ((.seq (.ops (⟨some 8, _, _⟩ :: []) _) _) : XCode) = TT
 simp only [zZ, zY, q_U, q_Y, v_ld, ev, qb_p, qb_q, if_true, if_false, Nat.reduceEqDiff, Nat.reduceLT, l2]
 refine yfj T S v bv L (nod L i) ps H2 _ (Secs.ext x12 hs) hN hb hp ?_
 intro vo H3 ho x3
 have x13 := x12.trans x3
 have b3 := b2.ext x3
 have lo := yct ho.1
 have hvo := ho.1
 have hrng := ykm hp
 have hcl := ykn hp 4
 rw [List.take_of_length_le hp.n4] at hcl
 have hcl2 : 4 * L.length <= 4 * 240 := Nat.mul_le_mul (Nat.le_refl _) hN
 have hN3 : H2.n <= H3.n := x3.1
 subst hTT
 generalize hTT : ((.seq (.dops (.mk ⟨some 34, _, _⟩ _ _ _ :: _) _) _) : XCode) = TT
 simp only [zZ, zY, q_b, q_P, q_Q, q_X, ev, if_true, if_false, Nat.reduceEqDiff, Nat.reduceLT, lo]
 generalize hout : chP ps = out at *
 refine yaz (fun k fr H' => ∃ w, HExt H3 H' /\ OwnB H3.n H' w (readL L (out.take k)) /\ fr = [(2, .pointer (some ⟨H.n, 0, none⟩)), (5, bv), (8, w), (20, vo), (21, .int .i64 (out.length : Int)), (22, .int .i64 (k : Int))]) out.length ⟨_, HExt.refl H3, Own.nil _ _ _, rfl⟩ ?_ ?_
 ·rintro k hk fr H4 ⟨w, x4, ow, rfl⟩ J hJ
  have hlt : (k : Int) < (out.length : Int) := by omega
  have w3 := wrS k (by omega)
  obtain ⟨i', hi'⟩ : ∃ i, out[k]? = some i := ⟨_, List.getElem?_eq_getElem hk⟩
  have hr := hrng i' (List.mem_of_getElem? hi')
  obtain ⟨j, rfl⟩ : ∃ j : Nat, i' = (j : Int) := ⟨i'.toNat, by omega⟩
  have hvo4 : Ints H4 vo out := Sl.ext x4 hvo
  have i1 := ydT hvo4 (k : Int) k rfl hk
  have i2 := yeH hvo4 k _ hi'
  have b4 := b3.ext x4
  have l4 := b4.ld 2 v rfl
  have hjL : j < L.length := by omega
  obtain ⟨e, e1, e2, e3⟩ := (Secs.ext (x13.trans x4) hs).at (j : Int) j rfl hjL
  have hl := (h8 _ (List.getElem_mem hjL)).1
  have hrl := ye4 L h8 (out.take k) (fun i hi => by have := hrng i (List.mem_of_mem_take hi); omega)
  have htk : (out.take k).length <= 960 := by rw [List.length_take]; omega
  simp only [zZ, zY, ycA, q_b, q_d, q_j, q_B, q_W, q_Z, v_ld, qb_a, qb_h, ev, xbin, ibin, if_true, if_false, Nat.reduceEqDiff, Nat.reduceLT, hlt, decide_true, i1, i2, fldAk, l4, e1, e2]
  refine appB ow x4.1 e3 (by rw [hrl, hl]; omega) ?_
  intro w5 H5 o5 s5
  simp only [w3]
  refine hJ _ _ ⟨w5, Keep.trans (n0 := H3.n) x4 (s5.keep ow x4.1), ?_, rfl⟩
  have : out.take (k + 1) = out.take k ++ [(j : Int)] := by rw [List.take_add_one, hi']; rfl
  rw [this, ylp, Int.toNat_natCast, yaa (List.getElem?_eq_getElem hjL)]
  exact o5
 ·rintro fr H4 ⟨w, x4, ow, rfl⟩
  rw [List.take_length] at ow
  have x24 := x3.trans x4
  have len16 := hp.len
  have hb4 : Byts H4 bv (nod L i) := Sl.ext x24 hb
  have i2 := yam hb4 2 2 rfl (by omega)
  have i3 := yam hb4 3 3 rfl (by omega)
  have d2 := yaJ hb4 2 _ (ya6 (nod L i) 2 (by omega))
  have d3 := yaJ hb4 3 _ (ya6 (nod L i) 3 (by omega))
  have r2 := yg9 (nod L i) hp.b8 2
  have r3 := yg9 (nod L i) hp.b8 3
  have c2 := fun H => ya5 .u8 ((nod L i).getD 2 0) (by omega) (by omega) H
  have c3 := fun H => ya5 .u8 ((nod L i).getD 3 0) (by omega) (by omega) H
  have s8 := shl8 ((nod L i).getD 2 0) (by omega) (by omega)
  have hnn : 0 <= nsz (nod L i) := by unfold nsz; omega
  have ws : IntKind.i64.wrap ((nod L i).getD 2 0 * 256 + (nod L i).getD 3 0) = ((nsz (nod L i)).toNat : Int) := by
   rw [wrI _ (by omega) (by omega), Int.toNat_of_nonneg hnn]; rfl
  have n8 : ¬ ((8 : Int) < 0) := by decide
  have hrl := ye4 L h8 out (fun i hi => by have := hrng i hi; omega)
  have lw := yaY ow.1
  have hmn : (if ((nsz (nod L i)).toNat : Int) < ((readL L out).length : Int) then ((nsz (nod L i)).toNat : Int) else ((readL L out).length : Int)) = ((nsz (nod L i)).toNat : Int) := by split <;> omega
  obtain ⟨s', k1, k2, k3, k4⟩ := yey (lo := none) (hi := some (.int .i64 ((nsz (nod L i)).toNat : Int))) (i := 0) (h := (nsz (nod L i)).toNat) ow.1 rfl rfl (Nat.zero_le _) (by omega)
  have os : OwnB H3.n H4 s' (cntP L (nod L i) ps) := by
   have := k4 _ ow
   have hl : (cntP L (nod L i) ps).length = (nsz (nod L i)).toNat := by unfold cntP; rw [hout, List.length_take]; omega
   unfold OwnB
   rw [hl]
   have e : (cntP L (nod L i) ps).map (Value.int .u8) = (((readL L out).map (Value.int .u8)).drop (0 * 1)).take (((nsz (nod L i)).toNat - 0) * 1) := by
    rw [Nat.zero_mul, List.drop_zero, Nat.sub_zero, Nat.mul_one, <- List.map_take]; unfold cntP; rw [hout]
   rw [e]; exact this
  subst hTT
  simp only [zZ, zY, ycA, q_b, q_e, q_f, q_h, q_j, q_k, q_m, q_C, q_W, q_Z, v_ld, qb_a, qb_h, ev, xbin, ibin, qb_A, qb_B, qb_C, if_true, if_false, Nat.reduceEqDiff, Nat.reduceLT, Int.lt_irrefl, decide_false]
  refine yaL _ _ _ _ _ rfl ?_
  simp only [zZ, zY, q_D, q_H, q_L, q_M, q_N, q_O, Bool.false_and, zE, cond_false, q_S, q_T, q_W, q_X, q_Z, v_ld, qb_e, qb_f, ev, xbin, ibin, resV, qb_D, if_true, if_false, Nat.reduceEqDiff, Nat.reduceLT, i2, i3, d2, d3, c2, c3, n8, s8, ws, lw, hmn, k1]
  exact hq s' H4 (Own.le os (by have := x13.1; omega)) (x13.trans x4)
theorem ynn (nm : List Int) (n : Nat) : (nm ++ List.replicate (n + 1) (0 : Int))[nm.length + n]? = some 0 := by
 rw [List.getElem?_append_right (by omega), Nat.add_sub_cancel_left, List.getElem?_replicate, if_pos (by omega)]
theorem ynl (nm : List Int) (n : Nat) : (nm ++ List.replicate (n + 1) (0 : Int)).take (nm.length + n) = nm ++ List.replicate n 0 := by
 rw [List.take_length_add_append, List.take_replicate, Nat.min_eq_left (by omega)]
set_option maxHeartbeats 4000000 in
theorem ylN (nm : List Int) (m : Nat) (h8 : B8 nm) (hl : nm.length + m <= 1000) (hlast : ∀ x, nm[nm.length - 1]? = some x -> x ≠ 0) (H : AH) (Q : Value -> AH -> Prop) (hq : Q (.string (sB nm)) H) :
  Got (xc Tryz.prog tab 106 [.string (sB (nm ++ List.replicate m 0)), .int .u8 0] H) Q := by
 refine yac (res := [.tmp 4]) rfl ?_
 have o8 : ∀ n, B8 (nm ++ List.replicate n (0 : Int)) := fun n b hb => by
  rcases List.mem_append.1 hb with h | h
  ·exact h8 b h
  ·have := (List.mem_replicate.1 h).2; omega
 simp only [zZ, zY, ofArgs, q_b, q_f, q_m, ev, qb_A, qb_B, qb_C, if_true, if_false, reduceCtorEq, Nat.reduceEqDiff, Nat.reduceLT, Nat.zero_add]
 refine yaz (fun k fr H' => H' = H /\ fr = [(0, .string (sB (nm ++ List.replicate (m - k) 0))), (1, .int .u8 0)]) m ⟨rfl, rfl⟩ ?_ ?_
 ·rintro k hk fr H1 ⟨rfl, rfl⟩ J hJ
  obtain ⟨n, hn⟩ : ∃ n, m - k = n + 1 := ⟨m - k - 1, by omega⟩
  rw [hn]
  have ln := ydR (nm ++ List.replicate (n + 1) (0 : Int)) H1
  have hlen : (nm ++ List.replicate (n + 1) (0 : Int)).length = nm.length + n + 1 := by simp; omega
  rw [hlen] at ln
  have c1 : ((nm.length + n + 1 : Nat) : Int) > 0 := by omega
  have wl : IntKind.i64.wrap (((nm.length + n + 1 : Nat) : Int) - 1) = ((nm.length + n : Nat) : Int) := by rw [wrI _ (by omega) (by omega)]; omega
  have six := yeC _ (o8 (n + 1)) .i64 ((nm.length + n : Nat) : Int) (nm.length + n) rfl 0 (ynn nm n) H1
  have ssl := yl7 (nm ++ List.replicate (n + 1) (0 : Int)) (nm.length + n) ((nm.length + n : Nat) : Int) .i64 H1 rfl (by rw [hlen]; omega)
  rw [ynl] at ssl
  have e0 : ((0 : Int) == 0) = true := rfl
  simp only [zZ, zY, yaN, q_b, q_d, q_j, q_r, q_B, q_W, qb_o, ev, xbin, ibin, if_true, if_false, reduceCtorEq, Nat.reduceEqDiff, Nat.reduceLT, ydX, ln, c1, decide_true, wl, v_six ty9, optgd, six, e0, v_ssl ty9, Option.map_none, ssl]
  refine hJ _ _ ⟨rfl, ?_⟩
  have : m - (k + 1) = n := by omega
  rw [this]
 ·rintro fr H1 ⟨rfl, rfl⟩
  rw [Nat.sub_self, List.replicate_zero, List.append_nil]
  have ln := ydR nm H1
  by_cases h0 : nm.length = 0
  ·have c1 : ¬ ((nm.length : Nat) : Int) > 0 := by omega
   simp only [zZ, zY, yaN, q_b, q_e, q_h, q_j, q_k, q_s, q_C, q_W, qb_o, ev, xbin, ibin, resV, qb_D, if_true, if_false, reduceCtorEq, Nat.reduceEqDiff, Nat.reduceLT, ydX, ln, c1, decide_false]
   exact hq
  ·have c1 : ((nm.length : Nat) : Int) > 0 := by omega
   obtain ⟨x, hx⟩ : ∃ x, nm[nm.length - 1]? = some x := ⟨_, List.getElem?_eq_getElem (by omega)⟩
   have wl : IntKind.i64.wrap (((nm.length : Nat) : Int) - 1) = ((nm.length - 1 : Nat) : Int) := by rw [wrI _ (by omega) (by omega)]; omega
   have six := yeC nm h8 .i64 ((nm.length - 1 : Nat) : Int) (nm.length - 1) rfl x hx H1
   have e0 : (x == 0) = false := by simpa using hlast x hx
   simp only [zZ, zY, yaN, q_b, q_e, q_h, q_j, q_k, q_r, q_C, q_W, qb_o, ev, xbin, ibin, resV, qb_D, if_true, if_false, reduceCtorEq, Nat.reduceEqDiff, Nat.reduceLT, ydX, ln, c1, decide_true, wl, v_six ty9, optgd, six, e0]
   exact hq
theorem ylg : ByteArray.mk #[0] = sB [0] := rfl
theorem ym0 : B8 [0] := fun b hb => by rw [List.mem_singleton.1 hb]; omega
set_option maxHeartbeats 4000000 in
theorem ym9 (nm : List Int) (m : Nat) (h8 : B8 nm) (hl : nm.length + m <= 1000) (h0 : 0 < nm.length + m) (hlast : ∀ x, nm[nm.length - 1]? = some x -> x ≠ 0) (H : AH) (Q : Value -> AH -> Prop) (hq : Q (.string (sB nm)) H) :
  Got (xc Tryz.prog tab 80 [.string (sB (nm ++ List.replicate m 0)), .string (ByteArray.mk #[0])] H) Q := by
 refine yac (res := [.tmp 4]) rfl ?_
 generalize hTT : ((.seq (.seq (.ops (⟨some 27, _, _⟩ :: _) _) _) _) : XCode) = TT
 have o8 : B8 (nm ++ List.replicate m (0 : Int)) := fun b hb => by
  rcases List.mem_append.1 hb with h | h
  ·exact h8 b h
  ·have := (List.mem_replicate.1 h).2; omega
 have e1 := sbe o8 yfG
 have e2 := sbe ym0 yfG
 have n1 : decide (nm ++ List.replicate m (0 : Int) = []) = false := by
  rw [decide_eq_false_iff_not]
  intro e
  have : (nm ++ List.replicate m (0 : Int)).length = 0 := by rw [e]; rfl
  rw [List.length_append, List.length_replicate] at this
  omega
 have n2 : decide (([0] : List Int) = []) = false := rfl
 rw [n1] at e1
 rw [n2] at e2
 have ln := ydR [0] H
 have six := yeC [0] ym0 .i64 0 0 rfl 0 rfl H
 have c1 : ((([0] : List Int).length : Nat) : Int) = 1 := rfl
 rw [c1] at ln
 have c2 : ((0 : Int) < 128) := by omega
 have c3 : ((1 : Int) == 1) = true := rfl
 simp only [zZ, zY, ofArgs, q_d, q_f, q_i, q_m, q_r, q_t, q_B, q_C, q_U, q_W, qb_o, ev, qb_p, qb_q, xbin, ibin, qb_A, qb_B, qb_C, resV, qb_D, if_true, if_false, reduceCtorEq, Nat.reduceEqDiff, Nat.reduceLT, Nat.zero_add, sbNil, ylg, e1, e2, ydX, ln, c3, v_six ty9, optgd, six, c2, decide_true]
 exact ylN nm m h8 hl hlast H _ hq
theorem yf3 {H : AH} {v : Value} {l : List Int} {lo hi : Option Value} {i h : Nat} (hb : Byts H v l) (hn : 0 < l.length) (hl : natOf 0 lo = some i) (hh : natOf l.length hi = some h) (h1 : i <= h) (h2 : h <= l.length) :
  ∃ s', xslc H 1 v lo hi none = some s' /\ Byts H s' ((l.drop i).take (h - i)) := by
 obtain ⟨s', k1, _, _, k4, _⟩ := yed (lo := lo) (hi := hi) hb hn hl hh h1 h2
 refine ⟨s', k1, ?_⟩
 rw [Nat.mul_one, Nat.mul_one] at k4
 have hlen : ((l.drop i).take (h - i)).length = h - i := by rw [List.length_take, List.length_drop]; omega
 unfold Byts
 rw [hlen, List.map_take, List.map_drop]
 exact k4
def entE (p : List Int × Nat) : List Int := p.1 ++ List.replicate (20 - p.1.length) 0 ++ [(p.2 : Int)] ++ List.replicate 11 0
def dirB (its : List (List Int × Nat)) : List Int := its.flatMap entE
structure ItOk (p : List Int × Nat) : Prop where
 nm : okName p.1 = true
 n8 : B8 p.1
 nd : p.2 < 256
theorem ItOk.len {p : List Int × Nat} (h : ItOk p) : p.1.length <= 20 /\ (entE p).length = 32 := by
 have h1 : p.1.length <= 20 := by
  have := h.nm
  simp only [okName, Bool.and_eq_true, decide_eq_true_eq] at this
  omega
 refine ⟨h1, ?_⟩
 simp only [entE, List.length_append, List.length_replicate, List.length_cons, List.length_nil]
 omega
theorem ydV : ∀ (its : List (List Int × Nat)), (∀ p ∈ its, ItOk p) -> (dirB its).length = 32 * its.length
 | [], _ => rfl
 | p :: r, h => by
  have e : dirB (p :: r) = entE p ++ dirB r := by simp [dirB]
  rw [e, List.length_append, (h p (by simp)).len.2, ydV r fun q hq => h q (List.mem_cons_of_mem _ hq), List.length_cons]; omega
theorem ymR : ∀ (its : List (List Int × Nat)) (k : Nat) (p : List Int × Nat), (∀ q ∈ its, ItOk q) -> its[k]? = some p -> ((dirB its).drop (32 * k)).take 32 = entE p
 | [], k, p, _, h => by simp at h
 | q :: r, 0, p, ho, h => by
  cases h
  have e : dirB (q :: r) = entE q ++ dirB r := by simp [dirB]
  rw [e, Nat.mul_zero, List.drop_zero, List.take_left' (ho q (by simp)).len.2]
 | q :: r, k + 1, p, ho, h => by
  have e : dirB (q :: r) = entE q ++ dirB r := by simp [dirB]
  have hl := (ho q (by simp)).len.2
  have := ymR r k p (fun x hx => ho x (List.mem_cons_of_mem _ hx)) h
  rw [e, show 32 * (k + 1) = (entE q).length + 32 * k by omega, List.drop_length_add_append]
  exact this
def ITS : LS (List Int × Nat) := ⟨2, fun p => [.string (sB p.1), .int .i64 (p.2 : Int)], fun _ => rfl, by decide⟩
def Srt (its : List (List Int × Nat)) : Prop := ∀ k p q, its[k]? = some p -> its[k + 1]? = some q -> Op.bytesLess (sB p.1).toList (sB q.1).toList = true
theorem nzI : isNZ (.func (.func 83) #[] #[]) := by
 intro x H
 show xc Tryz.prog tab 83 [.int .u8 x] H = _
 refine ycd (yac (res := [.tmp 2]) rfl ?_)
 simp only [zZ, zY, ofArgs, q_f, q_m, q_W, ev, xbin, ibin, qb_A, qb_B, qb_C, resV, qb_D, if_true, if_false, reduceCtorEq, Nat.reduceEqDiff, Nat.reduceLT, true_and]
theorem yj7 {s : List Int} (h : okName s = true) (x : Int) (hx : s[s.length - 1]? = some x) : x ≠ 0 := by
 have h1 := (yaU h).2.2 x (List.mem_of_getElem? hx)
 exact yl9 h1
theorem ynU {p : List Int × Nat} (h : ItOk p) : (entE p).take 20 = p.1 ++ List.replicate (20 - p.1.length) 0 /\ (entE p).drop 21 = List.replicate 11 0 /\ (entE p)[20]? = some (p.2 : Int) := by
 have hl := h.len.1
 have e : entE p = (p.1 ++ List.replicate (20 - p.1.length) 0) ++ ((p.2 : Int) :: List.replicate 11 0) := by simp [entE]
 have l20 : (p.1 ++ List.replicate (20 - p.1.length) (0 : Int)).length = 20 := by rw [List.length_append, List.length_replicate]; omega
 refine ⟨by rw [e, List.take_left' l20], ?_, ?_⟩
 ·rw [e, show (21 : Nat) = (p.1 ++ List.replicate (20 - p.1.length) (0 : Int)).length + 1 by omega, List.drop_length_add_append]; rfl
 ·rw [e, List.getElem?_append_right (by omega), l20]; rfl
set_option maxHeartbeats 8000000 in
theorem yk1 (its : List (List Int × Nat)) (bv : Value) (H : AH) (Q : Value -> AH -> Prop) (hb : Byts H bv (dirB its)) (ho : ∀ p ∈ its, ItOk p) (hs : Srt its) (hl : its.length <= 100)
  (hq : ∀ w H', OL ITS H.n H' w its -> HExt H H' -> Q (.tuple [w, .bool true].toArray) H') :
  Got (xc Tryz.prog tab 40 [bv] H) Q := by
 refine yac (res := [.tmp 2, .tmp 3]) rfl ?_
 have dl := ydV its ho
 have lb := yaY hb
 rw [dl] at lb
 have r32 : (((32 * its.length : Nat) : Int)).tmod 32 = 0 := by
  rw [Int.tmod_eq_emod_of_nonneg (by omega)]; omega
 have c0 : ((0 : Int) != 0) = false := rfl
 have z32 : ¬ ((32 : Int) = 0) := by omega
 generalize hTT : ((.seq (.ops (⟨some 58, _, _⟩ :: _) _) _) : XCode) = TT
 simp only [zZ, zY, ofArgs, q_b, q_d, q_C, q_W, q_X, ev, xbin, ibin, if_true, if_false, reduceCtorEq, Nat.reduceEqDiff, Nat.reduceLT, lb, z32, r32, c0]
 refine yaz (fun k fr H' => ∃ w, OL ITS H.n H' w (its.take k) /\ HExt H H' /\ fr = [(0, bv), (4, w), (5, .int .i64 ((32 * k : Nat) : Int))]) its.length ⟨.slice none 0 0, OL.nil _ _ _, HExt.refl H, rfl⟩ ?_ ?_
 ·rintro k hk fr H1 ⟨w, o1, x1, rfl⟩ J hJ
  have hb1 : Byts H1 bv (dirB its) := Sl.ext x1 hb
  have lb1 := yaY hb1
  rw [dl] at lb1
  have hlt : ((32 * k : Nat) : Int) < ((32 * its.length : Nat) : Int) := by omega
  obtain ⟨p, hp⟩ : ∃ p, its[k]? = some p := ⟨_, List.getElem?_eq_getElem hk⟩
  have hpm := List.mem_of_getElem? hp
  have ok := ho p hpm
  obtain ⟨g1, g2, g3⟩ := ynU ok
  obtain ⟨hl20, hl32⟩ := ok.len
  have w32 : IntKind.i64.wrap (((32 * k : Nat) : Int) + 32) = ((32 * (k + 1) : Nat) : Int) := by rw [wrI _ (by omega) (by omega)]; omega
  obtain ⟨s1, k1, b1⟩ := yf3 (lo := some (.int .i64 ((32 * k : Nat) : Int))) (hi := some (.int .i64 ((32 * (k + 1) : Nat) : Int))) (i := 32 * k) (h := 32 * (k + 1)) hb1 (by omega) rfl rfl (by omega) (by omega)
  rw [show 32 * (k + 1) - 32 * k = 32 by omega, ymR its k p ho hp] at b1
  obtain ⟨s2, k2, b2⟩ := yf3 (lo := none) (hi := some (.int .i64 20)) (i := 0) (h := 20) b1 (by omega) rfl rfl (by omega) (by omega)
  rw [List.drop_zero, Nat.sub_zero, g1] at b2
  obtain ⟨s3, k3, b3⟩ := yf3 (lo := some (.int .i64 21)) (hi := none) (i := 21) (h := (entE p).length) b1 (by omega) rfl rfl (by omega) (by omega)
  rw [List.take_of_length_le (by rw [List.length_drop]; omega), g2] at b3
  have t2 := yj5 b2
  have Nx := yi1 p.1 ok.n8 (by omega) H1
  rw [ok.nm] at Nx
  have Cx := ydW _ nzI (List.replicate 11 0) (by simp) s3 H1 b3
  have any0 : (List.replicate 11 (0 : Int)).any (fun x => x != 0) = false := rfl
  rw [any0] at Cx
  have i20 := yam b1 20 20 rfl (by omega)
  have d20 := yaJ b1 20 _ g3
  have cv := fun H => ya5 .u8 (p.2 : Int) (by omega) (by have := ok.nd; omega) H
  have ow := SL.len_ok o1.1
  have htk : (its.take k).length = k := by rw [List.length_take]; omega
  rw [htk] at ow
  generalize hII : ((.ops [⟨some 16, .mov (.tmp 5), none⟩, ⟨some 17, .bin .add (.tmp 16) (.const (.int .i64 32)), none⟩, ⟨some 5, .mov (.tmp 17), none⟩] [0, 4, 5]) : XCode) = II
  unfold ydd
  rw [hII]
  generalize hTT2 : ((.seq (.seq (.ops (⟨some 27, _, _⟩ :: _) _) _) _) : XCode) = T2
  simp only [zZ, zY, q_b, q_d, q_B, q_L, q_M, q_N, q_O, Bool.false_and, zE, cond_false, q_U, q_W, q_X, qb_e, ev, qb_p, qb_q, xbin, ibin, if_true, if_false, reduceCtorEq, Nat.reduceEqDiff, Nat.reduceLT, lb1, hlt, decide_true, w32, k1, k2, v_b2s, t2]
  refine ym9 p.1 (20 - p.1.length) ok.n8 (by omega) (by omega) (fun x hx => yj7 ok.nm x hx) H1 _ ?_
  subst hTT2
  generalize hTT2 : ((.seq (.seq (.ops (⟨some 35, _, _⟩ :: _) _) _) _) : XCode) = T2
  simp only [zZ, zY, q_d, q_t, q_C, q_E, q_J, q_L, q_M, q_N, Bool.false_and, zE, zD, cond_false, q_U, qb_e, qb_o, ev, qb_p, qb_q, if_true, if_false, reduceCtorEq, Nat.reduceEqDiff, Nat.reduceLT, Nx, k3, Cx]
  subst hTT2
  have hallL : ([.string (sB p.1), .int .i64 (p.2 : Int)] : List Value).all one = true := rfl
  have htk1 : its.take (k + 1) = its.take k ++ [p] := by rw [List.take_add_one, hp]; rfl
  generalize hTT2 : ((.ops (⟨some 49, _, _⟩ :: _) _) : XCode) = T2
  by_cases hk0 : k = 0
  ·have c1 : ¬ ((k : Nat) : Int) > 0 := by omega
   simp only [zZ, zY, q_d, q_s, q_C, q_W, q_X, qb_o, ev, xbin, ibin, if_true, if_false, reduceCtorEq, Nat.reduceEqDiff, Nat.reduceLT, ow, c1, decide_false]
   subst hTT2
   simp only [zZ, zY, q_j, q_Z, v_ld, qb_a, qb_f, ev, if_true, if_false, reduceCtorEq, Nat.reduceEqDiff, Nat.reduceLT, Nat.zero_add, Nat.reduceAdd, i20, d20, cv, vb, vbs, qb_X, qb_Y, qb_Z, ybp, ygy, yaR, ygz, eq_self, List.length_cons, List.length_nil, List.set_cons_zero, List.set_cons_succ, List.map_cons, List.map_nil, Nat.zero_mul, rep_1]
   rw [ycY (n := 2) hallL rfl rfl]
   simp only [q_q, zC]
   refine OL.push [p] o1 x1.1 hallL 24 (by decide) (by simp; omega) ?_
   intro w' H4 o4 k4 _ _ _
   subst hII
   simp only [zZ, zY, q_W, ev, xbin, ibin, if_true, if_false, reduceCtorEq, Nat.reduceEqDiff, Nat.reduceLT, w32]
   refine hJ _ _ ⟨w', ?_, x1.trans' k4.1 k4.2, rfl⟩
   rw [htk1]; exact o4
  ·have c1 : ((k : Nat) : Int) > 0 := by omega
   obtain ⟨j, rfl⟩ : ∃ j, k = j + 1 := ⟨k - 1, by omega⟩
   obtain ⟨q, hqj⟩ : ∃ q, its[j]? = some q := ⟨_, List.getElem?_eq_getElem (by omega)⟩
   have wj : IntKind.i64.wrap (((j + 1 : Nat) : Int) - 1) = (j : Int) := by rw [wrI _ (by omega) (by omega)]; omega
   have hqt : (its.take (j + 1))[j]? = some q := by rw [List.getElem?_take, if_pos (by omega), hqj]
   have a1 := SL.at o1.1 .i64 (j : Int) j rfl (by omega)
   have a2 := SL.fld o1.1 0 (j * 2) (by omega)
   have a3 := SL.cell o1.1 j q hqt 0 _ rfl
   have hz2 : ITS.sz = 2 := rfl
   rw [hz2] at a1 a3
   have ge : sbin .geq (sB q.1) (sB p.1) = some (.bool false) := by
    show some (Value.bool (!(Op.bytesLess (sB q.1).toList (sB p.1).toList))) = _
    rw [hs j q p hqj hp]; rfl
   simp only [zZ, zY, q_d, q_r, q_C, q_W, q_X, q_Z, v_ld, qb_h, qb_o, ev, xbin, ibin, if_true, if_false, reduceCtorEq, Nat.reduceEqDiff, Nat.reduceLT, ow, c1, decide_true, wj, a1, a2, a3, ge]
   subst hTT2
   simp only [zZ, zY, q_j, q_Z, v_ld, qb_a, qb_f, ev, if_true, if_false, reduceCtorEq, Nat.reduceEqDiff, Nat.reduceLT, Nat.zero_add, Nat.reduceAdd, i20, d20, cv, vb, vbs, qb_X, qb_Y, qb_Z, ybp, ygy, yaR, ygz, eq_self, List.length_cons, List.length_nil, List.set_cons_zero, List.set_cons_succ, List.map_cons, List.map_nil, Nat.zero_mul, rep_1]
   rw [ycY (n := 2) hallL rfl rfl]
   simp only [q_q, zC]
   refine OL.push [p] o1 x1.1 hallL 24 (by decide) (by simp; omega) ?_
   intro w' H4 o4 k4 _ _ _
   subst hII
   simp only [zZ, zY, q_W, ev, xbin, ibin, if_true, if_false, reduceCtorEq, Nat.reduceEqDiff, Nat.reduceLT, w32]
   refine hJ _ _ ⟨w', ?_, x1.trans' k4.1 k4.2, rfl⟩
   rw [htk1]; exact o4
 ·rintro fr H1 ⟨w, o1, x1, rfl⟩
  rw [List.take_length] at o1
  have lb1 := yaY (Sl.ext x1 hb : Byts H1 bv (dirB its))
  rw [dl] at lb1
  have hlt : ¬ ((32 * its.length : Nat) : Int) < ((32 * its.length : Nat) : Int) := by omega
  subst hTT
  simp only [zZ, zY, ydd, q_b, q_e, q_f, q_h, q_j, q_k, q_m, q_C, q_J, q_L, q_M, q_N, q_O, Bool.false_and, zE, cond_false, q_U, q_W, q_X, q_Z, v_ld, qb_a, qb_e, qb_f, ev, qb_p, qb_q, xbin, ibin, qb_A, qb_B, qb_C, resV, qb_D, if_true, if_false, reduceCtorEq, Nat.reduceEqDiff, Nat.reduceLT, lb1, hlt, decide_false]
  exact hq w H1 o1 x1
def clrB (n : Int) (j : Nat) : Int := IntKind.u8.wrap ((BitVec.ofInt IntKind.u8.bits n &&& ~~~BitVec.ofInt IntKind.u8.bits (IntKind.u8.wrap (1 * 2 ^ min j IntKind.u8.bits))).toNat : Int)
def orB (n : Int) (j : Nat) : Int := IntKind.u8.wrap ((BitVec.ofInt IntKind.u8.bits n ||| BitVec.ofInt IntKind.u8.bits (IntKind.u8.wrap (1 * 2 ^ min j IntKind.u8.bits))).toNat : Int)
def mrkB (n : Int) (j : Nat) (is : Bool) : Int := bif is then orB (clrB n j) j else clrB n j
theorem ynw : ((List.range 8).all fun j => (List.range 256).all fun n => [true, false].all fun is => decide (0 <= mrkB (n : Int) j is) && decide (mrkB (n : Int) j is < 256) && (List.range 8).all fun i => (((mrkB (n : Int) j is).toNat >>> i) % 2 == 1) == (if i = j then is else ((n >>> i) % 2 == 1))) = true := by kernel_rfl
theorem yo1 (n : Int) (h0 : 0 <= n) (h1 : n < 256) (j : Nat) (hj : j < 8) (is : Bool) : (0 <= mrkB n j is /\ mrkB n j is < 256) /\ ∀ i, i < 8 -> ((mrkB n j is).toNat >>> i % 2 == 1) = if i = j then is else (n.toNat >>> i % 2 == 1) := by
 obtain ⟨m, rfl⟩ : ∃ m : Nat, n = m := ⟨n.toNat, by omega⟩
 have h := List.all_eq_true.1 (List.all_eq_true.1 ynw j (List.mem_range.2 hj)) m (List.mem_range.2 (by omega))
 have h2 := List.all_eq_true.1 h is (by cases is <;> simp)
 simp only [Bool.and_eq_true, decide_eq_true_eq] at h2
 refine ⟨h2.1, fun i hi => ?_⟩
 have h3 := List.all_eq_true.1 h2.2 i (List.mem_range.2 hi)
 simpa using h3
def mrkL (L : List (List Int)) (k : Nat) (is : Bool) : List (List Int) := L.set 1 ((L.getD 1 []).set (k / 8) (mrkB ((L.getD 1 []).getD (k / 8) 0) (k % 8) is))
set_option maxHeartbeats 4000000 in
theorem yiw (T S : Int) (v : Value) (vs : List Value) (L : List (List Int)) (n0 k : Nat) (is : Bool) (H : AH) (Q : Value -> AH -> Prop) (d : Dk n0 L.length H v vs L) (h8 : ∀ l ∈ L, SecOk l) (hL : 1 < L.length) (hk2 : k < 1024)
  (hq : ∀ H' u, Dk n0 L.length H' v vs (mrkL L k is) -> Frm vs H H' -> Q u H') : Got (xc Tryz.prog tab 70 [.agg #[.int .i64 T, .int .i64 S, v], .int .i64 (k : Int), .bool is] H) Q := by
 refine yac (res := []) rfl ?_
 have vA : vcells (.agg #[.int .i64 T, .int .i64 S, v]) = [.int .i64 T, .int .i64 S, v] := rfl
 have b := Bx.new H [.int .i64 T, .int .i64 S, v]
 have x := yab H ⟨[.int .i64 T, .int .i64 S, v], 1, false, false⟩
 generalize hTT : ((.seq (.dops (.mk ⟨some 6, _, _⟩ _ _ _ :: _) _) _) : XCode) = TT
 simp only [zZ, zY, ofArgs, qb_j, ev, if_true, if_false, reduceCtorEq, Nat.reduceEqDiff, Nat.reduceLT, Nat.zero_add, Nat.reduceAdd, vA]
 generalize H.push ⟨[.int .i64 T, .int .i64 S, v], 1, false, false⟩ = H1 at *
 have l2 := b.ld 2 v rfl
 have d1 := d.ext x
 have q1 : IntKind.i64.wrap ((k : Int).tdiv 8) = ((k / 8 : Nat) : Int) := quoN k 8 (by omega)
 have q2 : (k : Int).tmod 8 = ((k % 8 : Nat) : Int) := rfl
 obtain ⟨e, e1, e2⟩ := d1.get2 1 hL
 have i1 := yau d1.own.1 .i64 1 1 rfl hL
 have i2 := yaV d1.own.1 1 e e1
 have hb := d1.byt _ _ _ e1 e2
 have hl := (h8 _ (List.getElem_mem hL)).1
 have hm : k / 8 < (L[1]'hL).length := by rw [hl]; omega
 have i3 := yam hb ((k / 8 : Nat) : Int) (k / 8) rfl hm
 have i4 := yaJ hb (k / 8) _ (List.getElem?_eq_getElem hm)
 have n8 : ¬ ((8 : Int) = 0) := by decide
 have n1 : ¬ (((k % 8 : Nat) : Int) < 0) := by omega
 subst hTT
 rw [q_a]
 refine yaL _ _ _ _ _ rfl ?_
 simp only [zZ, zY, q_S, q_T, q_W, q_Z, v_ld, v_st, qb_h, ev, qb_v, xbin, ibin, if_true, if_false, Nat.reduceEqDiff, Nat.reduceLT, fldAk, l2, n8, n1, q1, q2, i1, i2, i3, i4, Int.toNat_natCast]
 have ml : mrkL L k is = L.set 1 ((L[1]'hL).set (k / 8) (mrkB ((L[1]'hL)[k / 8]'hm) (k % 8) is)) := by
  unfold mrkL
  rw [yaa (List.getElem?_eq_getElem hL), yaa (List.getElem?_eq_getElem hm)]
 generalize hcc : (L[1]'hL)[k / 8]'hm = c at *
 refine ydU d1 1 (k / 8) e _ e1 e2 hm (clrB c (k % 8)) ?_
 intro H2 d2 s2 _
 have b2 := (b.same s2.n (s2.get _ b.2 fun hin => by have := d.lt 1 e e1 hin; omega))
 have l2' := b2.ld 2 v rfl
 have hL2 : 1 < (L.set 1 ((L[1]'hL).set (k / 8) (clrB c (k % 8)))).length := by rw [List.length_set]; exact hL
 have e2' : (L.set 1 ((L[1]'hL).set (k / 8) (clrB c (k % 8))))[1]? = some ((L[1]'hL).set (k / 8) (clrB c (k % 8))) := by rw [List.getElem?_set, if_pos rfl, if_pos hL]
 cases is with
 | false =>
  simp only [q_d, q_n, q_C, ev, qb_r, zC, qb_A, qb_B, resV, qb_D, if_true, if_false, Nat.reduceEqDiff]
  refine hq H2 _ ?_ ((Frm.ext x).trans (Frm.stp e1 s2))
  rw [ml]; exact d2
 | true =>
  have i1' := yau d2.own.1 .i64 1 1 rfl hL2
  have i2' := yaV d2.own.1 1 e e1
  have hb2 := d2.byt _ _ _ e1 e2'
  have hm2 : k / 8 < ((L[1]'hL).set (k / 8) (clrB c (k % 8))).length := by rw [List.length_set]; exact hm
  have i3' := yam hb2 ((k / 8 : Nat) : Int) (k / 8) rfl hm2
  have i4' := yaJ hb2 (k / 8) (clrB c (k % 8)) (by rw [List.getElem?_set, if_pos rfl, if_pos hm])
  simp only [q_B, ev, qb_r, if_true, if_false, Nat.reduceEqDiff]
  refine yaL _ _ _ _ _ rfl ?_
  simp only [zZ, zY, q_n, q_S, q_T, q_W, q_Z, v_ld, v_st, qb_h, ev, qb_v, xbin, ibin, qb_A, qb_B, resV, qb_D, if_true, if_false, Nat.reduceEqDiff, Nat.reduceLT, fldAk, l2', n8, n1, q1, q2, i1', i2', i3', i4', Int.toNat_natCast]
  have d2' : Dk n0 (L.set 1 ((L[1]'hL).set (k / 8) (clrB c (k % 8)))).length H2 v vs (L.set 1 ((L[1]'hL).set (k / 8) (clrB c (k % 8)))) := by rw [List.length_set]; exact d2
  refine ydU d2' 1 (k / 8) e _ e1 e2' hm2 (orB (clrB c (k % 8)) (k % 8)) ?_
  intro H3 d3 s3 _
  refine hq H3 _ ?_ ((Frm.ext x).trans ((Frm.stp e1 s2).trans (Frm.stp e1 s3)))
  rw [ml]
  rw [List.length_set, List.set_set, List.set_set] at d3
  exact d3
theorem yfV (L : List (List Int)) (k : Nat) (is : Bool) : (mrkL L k is).length = L.length := by unfold mrkL; rw [List.length_set]
theorem ydS (L : List (List Int)) (k : Nat) (is : Bool) (q : Nat) (hq : q ≠ 1) : (mrkL L k is)[q]? = L[q]? := by unfold mrkL; rw [List.getElem?_set, if_neg (fun e => hq e.symm)]
theorem ynv (L : List (List Int)) (k : Nat) (is : Bool) (i : Nat) : nod (mrkL L k is) i = nod L i := by
 unfold nod
 rw [List.getD_eq_getElem?_getD, List.getD_eq_getElem?_getD, ydS L k is _ (by omega)]
theorem yka (L : List (List Int)) (k : Nat) (is : Bool) (h8 : ∀ l ∈ L, SecOk l) (hL : 1 < L.length) (hk : k < 1024) : (∀ l ∈ mrkL L k is, SecOk l) /\ ∀ i, i < 1024 -> usd (mrkL L k is) i = if i = k then is else usd L i := by
 have h1 := h8 _ (List.getElem_mem hL)
 have hm : k / 8 < (L[1]'hL).length := by rw [h1.1]; omega
 have hb := h1.2 _ (List.getElem_mem hm)
 obtain ⟨r1, r2⟩ := yo1 ((L[1]'hL)[k / 8]'hm) hb.1 hb.2 (k % 8) (Nat.mod_lt _ (by omega)) is
 have ml : mrkL L k is = L.set 1 ((L[1]'hL).set (k / 8) (mrkB ((L[1]'hL)[k / 8]'hm) (k % 8) is)) := by
  unfold mrkL
  rw [yaa (List.getElem?_eq_getElem hL), yaa (List.getElem?_eq_getElem hm)]
 refine ⟨fun l hl => ?_, fun i hi => ?_⟩
 ·rw [ml] at hl
  rcases List.mem_or_eq_of_mem_set hl with h | rfl
  ·exact h8 l h
  ·refine ⟨by rw [List.length_set]; exact h1.1, fun b hb' => ?_⟩
   rcases List.mem_or_eq_of_mem_set hb' with h | rfl
   ·exact h1.2 b h
   ·exact r1
 ·have hl1 : (mrkL L k is).getD 1 [] = (L[1]'hL).set (k / 8) (mrkB ((L[1]'hL)[k / 8]'hm) (k % 8) is) := by
   rw [ml]
   exact yaa (by rw [List.getElem?_set, if_pos rfl, if_pos hL])
  have hl0 : L.getD 1 [] = L[1]'hL := yaa (List.getElem?_eq_getElem hL)
  unfold usd
  rw [hl1, hl0]
  have hi8 : i / 8 < (L[1]'hL).length := by rw [h1.1]; omega
  by_cases hd : i / 8 = k / 8
  ·have hg : ((L[1]'hL).set (k / 8) (mrkB ((L[1]'hL)[k / 8]'hm) (k % 8) is)).getD (i / 8) 0 = mrkB ((L[1]'hL)[k / 8]'hm) (k % 8) is := by
    rw [hd]; exact yaa (by rw [List.getElem?_set, if_pos rfl, if_pos hm])
   have hg0 : (L[1]'hL).getD (i / 8) 0 = (L[1]'hL)[k / 8]'hm := by rw [hd]; exact yaa (List.getElem?_eq_getElem hm)
   rw [hg, hg0, r2 (i % 8) (Nat.mod_lt _ (by omega))]
   by_cases he : i = k
   ·subst he; simp
   ·have : ¬ i % 8 = k % 8 := by omega
    rw [if_neg this, if_neg he]
  ·have hg : ((L[1]'hL).set (k / 8) (mrkB ((L[1]'hL)[k / 8]'hm) (k % 8) is)).getD (i / 8) 0 = (L[1]'hL).getD (i / 8) 0 := by
    rw [List.getD_eq_getElem?_getD, List.getD_eq_getElem?_getD, List.getElem?_set, if_neg (fun e => hd e.symm)]
   have : ¬ i = k := fun e => hd (by rw [e])
   rw [hg, if_neg this]
def magicB : List Int := [116, 114, 101, 101, 49]
theorem ygQ : ByteArray.mk #[116, 114, 101, 101, 49] = sB magicB := rfl
theorem yfW : B8 magicB := fun b hb => by
 simp only [magicB, List.mem_cons, List.not_mem_nil, or_false] at hb
 omega
def newL (N : Nat) : Nat -> List (List Int)
 | 0 => (List.replicate N zs128).set 0 (spI zs128 0 magicB)
 | k + 1 => mrkL (newL N k) k true
theorem yc9 (N : Nat) : ∀ k, (newL N k).length = N
 | 0 => by simp [newL]
 | k + 1 => by rw [newL, yfV, yc9 N k]
theorem ygL (N : Nat) (hN : 6 < N) : ∀ k, k <= 6 -> (∀ l ∈ newL N k, SecOk l) /\ (∀ i, i < 1024 -> usd (newL N k) i = decide (i < k)) /\ (∀ q, 2 <= q -> q < N -> (newL N k)[q]? = some zs128) /\ (newL N k)[0]? = some (spI zs128 0 magicB)
 | 0, _ => by
  have hz : SecOk zs128 := zs_ok
  refine ⟨fun l hl => ?_, fun i hi => ?_, fun q h1 h2 => ?_, ?_⟩
  ·rcases List.mem_or_eq_of_mem_set hl with h | rfl
   ·rw [(List.mem_replicate.1 h).2]; exact hz
   ·refine ⟨by rw [ydK _ _ _ (by simp [magicB, zs128])]; exact hz.1, fun b hb => ?_⟩
    simp only [spI, List.mem_append, List.take_zero, List.not_mem_nil, false_or] at hb
    rcases hb with h | h
    ·exact yfW b h
    ·exact hz.2 b (List.mem_of_mem_drop h)
  ·unfold usd newL
   have e1 : ((List.replicate N zs128).set 0 (spI zs128 0 magicB)).getD 1 [] = zs128 := yaa (by rw [List.getElem?_set, if_neg (by omega), List.getElem?_replicate, if_pos (by omega)])
   have e2 : zs128.getD (i / 8) 0 = 0 := yaa (by unfold zs128; rw [List.getElem?_replicate, if_pos (by omega)])
   rw [e1, e2]
   simp
  ·unfold newL
   rw [List.getElem?_set, if_neg (by omega), List.getElem?_replicate, if_pos h2]
  ·unfold newL
   rw [List.getElem?_set, if_pos rfl, if_pos (by simp; omega)]
 | k + 1, hk => by
  obtain ⟨a1, a2, a3, a4⟩ := ygL N hN k (by omega)
  have hl := yc9 N k
  obtain ⟨b1, b2⟩ := yka (newL N k) k true a1 (by omega) (by omega)
  refine ⟨b1, fun i hi => ?_, fun q h1 h2 => ?_, ?_⟩
  ·show usd (mrkL (newL N k) k true) i = _
   rw [b2 i hi, a2 i hi]
   by_cases h : i = k
   ·rw [if_pos h]; simp; omega
   ·rw [if_neg h]
    have : (i < k) ↔ (i < k + 1) := by omega
    simp [this]
  ·show (mrkL (newL N k) k true)[q]? = _
   rw [ydS _ _ _ _ (by omega)]; exact a3 q h1 h2
  ·show (mrkL (newL N k) k true)[0]? = _
   rw [ydS _ _ _ _ (by omega)]; exact a4
def rootL (N : Nat) : List (List Int) := (newL N 6).set 2 (zs128.set 0 2)
set_option maxHeartbeats 8000000 in
theorem yos (T S : Int) (hT : 1 <= T) (hT2 : T <= 20) (hS : 1 <= S) (hS2 : S <= 12) (N : Nat) (hN : (N : Int) = T * S) (hN10 : 6 < N) (hN2 : N <= 240) (H : AH) (Q : Value -> AH -> Prop)
  (hq : ∀ v vs H', Dk H.n N H' v vs (rootL N) -> HExt H H' -> Q (.tuple [.agg #[.int .i64 T, .int .i64 S, v], .int .i64 0].toArray) H') :
  Got (xc Tryz.prog tab 31 [.int .i64 T, .int .i64 S] H) Q := by
 refine yac (res := [.cell 4 (some 3), .tmp 5]) rfl ?_
 have r1 := Bx.new H [.int .i64 0, .int .i64 0, .slice none 0 0]
 have x1 := yab H ⟨[.int .i64 0, .int .i64 0, .slice none 0 0], 1, false, false⟩
 have n1 : (H.push ⟨[.int .i64 0, .int .i64 0, .slice none 0 0], 1, false, false⟩).n = H.n + 1 := rfl
 generalize hTT : ((.seq (.ops (⟨some 10, _, _⟩ :: _) _) _) : XCode) = TT
 simp only [zZ, zY, ofArgs, qb_i, ev, if_true, if_false, reduceCtorEq, Nat.reduceEqDiff, Nat.reduceLT, Nat.zero_add]
 generalize H.push ⟨[.int .i64 0, .int .i64 0, .slice none 0 0], 1, false, false⟩ = H1 at *
 subst hTT
 generalize hTT : ((.seq (.seq (.ops (⟨some 15, _, _⟩ :: _) _) _) _) : XCode) = TT
 simp only [zZ, zY, q_U, q_Y, v_st, qb_i, ev, qb_p, qb_q, qb_v, if_true, if_false, reduceCtorEq, Nat.reduceEqDiff, Nat.reduceLT]
 refine yk3 T S hT hT2 hS hS2 N hN hN2 H1 _ ?_
 intro v vs H2 d2 x2
 obtain ⟨v1, v2⟩ := yan d2.own.1
 have st3 := (Bx.new H2 [.int .i64 0, .int .i64 0, .slice none 0 0]).stn 3 [.int .i64 T, .int .i64 S, v] rfl rfl (by simp only [List.all_cons, List.all_nil, v1, yaR]; rfl)
 have b3 := Bx.mk H2 [.int .i64 0, .int .i64 0, .slice none 0 0] [.int .i64 T, .int .i64 S, v]
 have x3 : HExt H2 ((H2.push ⟨[.int .i64 0, .int .i64 0, .slice none 0 0], 1, false, false⟩).set H2.n ⟨[.int .i64 T, .int .i64 S, v], 1, false, false⟩) := yds _ _ _
 simp only [q_q, q_P, q_Q, st3]
 have d3 := d2.ext x3
 have r3 := r1.ext (x2.trans x3)
 have x03 := x1.trans (x2.trans x3)
 generalize (H2.push ⟨[.int .i64 0, .int .i64 0, .slice none 0 0], 1, false, false⟩).set H2.n ⟨[.int .i64 T, .int .i64 S, v], 1, false, false⟩ = H3 at *
 have l3 := b3.ld 2 v rfl
 have hv3 := ybC d3.own.1
 rw [List.length_replicate] at hv3
 have c1 : ¬ (N : Int) <= 6 := by omega
 have hE : ∀ (i : Nat) (x : Value), vs[i]? = some x -> ¬ inB x H2.n /\ ¬ inB x H.n := fun i x hx => by
  have hil : i < N := by
   have h1 := (List.getElem?_eq_some_iff.1 hx).1
   have h2 := d2.len
   rw [List.length_replicate] at h2; omega
  exact ⟨fun h => by have := d2.lt i x hx h; omega, fun h => by have := d2.ge i x hil hx h; omega⟩
 have hN0 : (0 : Nat) < (List.replicate N zs128).length := by rw [List.length_replicate]; omega
 obtain ⟨e, e1, e2⟩ := d3.get2 0 hN0
 have hz0 : (List.replicate N zs128)[0]'hN0 = zs128 := by simp
 rw [hz0] at e2
 have i1 := yau d3.own.1 .i64 0 0 rfl hN0
 have i2 := yaV d3.own.1 0 e e1
 have hb := d3.byt _ _ _ e1 e2
 have l128 : zs128.length = 128 := by simp [zs128]
 obtain ⟨B, o, c, blk0, he, _⟩ := hb.live (by omega)
 have d3' : Dk H1.n (List.replicate N zs128).length H3 v vs (List.replicate N zs128) := by rw [List.length_replicate]; exact d3
 obtain ⟨blk, hgb, hro, hbl, dB, sB', _⟩ := yg4 d3' 0 e zs128 e1 e2 B o c he 0 magicB (by rw [l128]; simp [magicB])
 have hmin : Nat.min magicB.length 128 = magicB.length := rfl
 have hsl2 : srcLen (.string (sB magicB)) = some magicB.length := by show some (sB magicB).size = _; rw [ycD]
 have xcp := yeP (sz := 1) (l := 128) (c := c) (o := o) (y := .string (sB magicB)) hsl2 hgb hro (by omega) (by rw [hmin]; exact yjX magicB yfW H3)
 rw [l128] at he
 rw [<- he] at xcp
 subst hTT
 generalize hTT : ((.seq (.seq (.ops (⟨some 29, _, _⟩ :: []) _) _) _) : XCode) = TT
 simp only [zZ, zY, q_d, q_C, q_W, q_X, q_Z, v_ld, qb_h, qb_l, ev, xbin, ibin, if_true, if_false, Nat.reduceEqDiff, Nat.reduceLT, bne_self_eq_false, fldAk, l3, hv3, c1, decide_false, i1, i2, ygQ, xcp]
 rw [Nat.add_zero] at dB sB'
 have f4 := Frm.stp e1 sB'
 have d4 : Dk H1.n N (H3.set B { blk with cells := splice blk.cells o (magicB.map (Value.int .u8)) }) v vs (newL N 0) := by rw [List.length_replicate] at dB; exact dB
 generalize H3.set B { blk with cells := splice blk.cells o (magicB.map (Value.int .u8)) } = H4 at *
 subst hTT
 simp only [zZ, zY, q_b, q_f, q_m, q_U, q_Z, v_ld, v_st, ev, qb_p, qb_q, qb_v, qb_A, if_true, if_false, Nat.reduceEqDiff, Nat.reduceLT]
 refine yaz (fun k fr H' => Dk H1.n N H' v vs (newL N k) /\ Frm vs H3 H' /\ fr = [(4, .pointer (some ⟨H.n, 0, none⟩)), (6, .pointer (some ⟨H2.n, 0, none⟩)), (29, .int .i64 (k : Int))]) 6 ⟨d4, f4, rfl⟩ ?_ ?_
 ·rintro k hk fr H5 ⟨d5, f5, rfl⟩ J hJ
  have b5 := f5.bx b3 fun i x hx => (hE i x hx).1
  have l5 := b5.ldn 3 rfl
  have hlt : (k : Int) < 6 := by omega
  have w3 := wrS k (by omega)
  have hl := yc9 N k
  obtain ⟨a1, _⟩ := ygL N hN10 k (by omega)
  simp only [zZ, zY, yd1, q_b, q_d, q_j, q_B, q_U, q_W, v_ld, ev, qb_p, qb_q, xbin, ibin, if_true, if_false, Nat.reduceEqDiff, Nat.reduceLT, hlt, decide_true, l5]
  refine yiw T S v vs (newL N k) H1.n k true H5 _ (by rw [hl]; exact d5) a1 (by omega) (by omega) ?_
  intro H6 u d6 f6
  rw [hl] at d6
  simp only [w3]
  exact hJ _ _ ⟨d6, f5.trans f6, rfl⟩
 ·rintro fr H5 ⟨d5, f5, rfl⟩
  have b5 := f5.bx b3 fun i x hx => (hE i x hx).1
  have l5 := b5.ldn 3 rfl
  have hl := yc9 N 6
  obtain ⟨a1, _, a3, _⟩ := ygL N hN10 6 (by omega)
  have c4 : ¬ ((6 : Nat) : Int) < 6 := by omega
  simp only [zZ, zY, yd1, q_b, q_e, q_h, q_j, q_k, q_C, q_U, q_W, v_ld, ev, qb_p, qb_q, xbin, ibin, if_true, if_false, Nat.reduceEqDiff, Nat.reduceLT, c4, decide_false, l5]
  have xA := yab H5 ⟨[.int .i64 T, .int .i64 S, v], 1, false, false⟩
  have dA := d5.ext xA
  obtain ⟨y, y1, y2⟩ := dA.get2 2 (by omega)
  have hz2 : (newL N 6)[2]'(by omega) = zs128 := by
   have := a3 2 (by omega) (by omega)
   rw [List.getElem?_eq_getElem (by omega)] at this
   exact Option.some.inj this
  rw [hz2] at y2
  have j1 : pIdx 1 v (.int .i64 ((2 + 0 / 8 : Nat) : Int)) (H5.push ⟨[.int .i64 T, .int .i64 S, v], 1, false, false⟩) = some (ptrAt v (2 + 0 / 8), H5.push ⟨[.int .i64 T, .int .i64 S, v], 1, false, false⟩) := yau dA.own.1 .i64 2 2 rfl (by omega)
  have j2 := yaV dA.own.1 2 y y1
  refine yfe T S v y zs128 0 (by omega) H5 _ j1 j2 (dA.byt _ _ _ y1 y2) l128 ?_
  rintro H6 s' rfl hb6 hpt _ _
  have i6 : pIdx 1 s' (.int .i64 0) (H5.push ⟨[.int .i64 T, .int .i64 S, v], 1, false, false⟩) = some (ptrAt s' 0, H5.push ⟨[.int .i64 T, .int .i64 S, v], 1, false, false⟩) := yam hb6 0 0 rfl (by rw [List.length_take, List.length_drop]; omega)
  have hp0 : ptrAt s' 0 = ptrAt y 0 := hpt 0
  rw [hp0] at i6
  simp only [q_q, i6]
  refine ydU (L := newL N 6) (by rw [hl]; exact dA) 2 0 y zs128 y1 y2 (by omega) 2 ?_
  intro H7 d7 s7 _
  rw [hl] at d7
  have f7 := f5.trans ((Frm.ext xA).trans (Frm.stp y1 s7))
  have b7 := f7.bx b3 fun i x hx => (hE i x hx).1
  have r7 := f7.bx r3 fun i x hx => (hE i x hx).2
  have l7 := b7.ldn 3 rfl
  have st7 := r7.stn 3 [.int .i64 T, .int .i64 S, v] rfl rfl (by simp only [List.all_cons, List.all_nil, v1, yaR]; rfl)
  have r8 := r7.set [.int .i64 T, .int .i64 S, v]
  have hcell : ∀ (fr : Fr) (xs : List XRes), fr.get 4 = some (.pointer (some ⟨H.n, 0, none⟩)) -> xress fr (H7.set H.n ⟨[.int .i64 T, .int .i64 S, v], 1, false, false⟩) (.cell 4 (some 3) :: xs) = (xress fr (H7.set H.n ⟨[.int .i64 T, .int .i64 S, v], 1, false, false⟩) xs).map fun vs => .agg #[.int .i64 T, .int .i64 S, v] :: vs := by
   intro fr xs hfr
   rw [ybI fr _ 4 _ 0 (some 3) _ (.agg #[.int .i64 T, .int .i64 S, v]) xs hfr r8.1 rfl]
  simp only [q_q, qb_r, zB, zC, qb_B, qb_C, resV, qb_D, if_true, if_false, Nat.reduceEqDiff, l7, st7, hcell]
  have d8 : Dk H1.n N (H7.set H.n ⟨[.int .i64 T, .int .i64 S, v], 1, false, false⟩) v vs (rootL N) := d7.set (fun h => by have := Own.geB d7.own h; omega) fun i x hx => (hE i x hx).2
  have h0 : H.n <= H1.n := by omega
  have hrl : (rootL N).length = N := by unfold rootL; rw [List.length_set, yc9]
  refine hq v vs _ ⟨d8.len, Own.le d8.own h0, fun i x l h1 h2 h3 => Own.le (d8.el i x l h1 h2 h3) h0, fun i x l h1 h2 h3 => by have := (List.getElem?_eq_some_iff.1 h3).1; omega, d8.dis, d8.sep⟩ ?_
  have hge : ∀ (i : Nat) (x : Value), vs[i]? = some x -> ∀ b, inB x b -> H1.n <= b := fun i x hx b hb => by
   have hil : i < N := by
    have h1 := (List.getElem?_eq_some_iff.1 hx).1
    have h2 := d2.len
    rw [List.length_replicate] at h2; omega
   exact d2.ge i x hil hx hb
  have x7 : HExt H1 H7 := Frm.hext f7 hge (x2.trans x3)
  exact (x1.trans x7).trans' (Nat.le_refl _) fun b hb => by rw [AH.get_set, if_neg (by omega)]
structure Nd where
 kd : Nat
 par : Nat
 ps : List (Nat × Nat)
 dt : List Int
def z16 : List Int := List.replicate 16 0
def pcs (ps : List (Nat × Nat)) : List Int := ps.flatMap fun p => [(p.1 : Int), (p.2 : Int)]
def nodB (kd par n : Nat) (ps : List (Nat × Nat)) : List Int := [(kd : Int), (par : Int), ((n / 256 : Nat) : Int), ((n % 256 : Nat) : Int)] ++ (pcs ps ++ List.replicate (12 - 2 * ps.length) 0)
def Nd.b (x : Nd) : List Int := nodB x.kd x.par x.dt.length x.ps
structure NdOk (L : List (List Int)) (x : Nd) : Prop where
 kd : x.kd = 1 \/ x.kd = 2
 pr : x.par < 32
 n4 : x.ps.length <= 4
 rg : ∀ p ∈ x.ps, 6 <= p.1 /\ 1 <= p.2 /\ p.1 + p.2 <= L.length
 dl : x.dt.length <= 65535
 d8 : B8 x.dt
 cl : (chP x.ps).length = need x.dt.length
 nd : (chP x.ps).Nodup
 sec : ∀ j c, (chP x.ps)[j]? = some c -> L[c.toNat]? = some (blkP x.dt j)
def ownB (G : Nat -> Option Nd) (i k : Nat) : Bool := decide (k < 6) || (List.range i).any fun j => match G j with | some x => (chP x.ps).contains (k : Int) | none => false
structure FRep (L : List (List Int)) (G : Nat -> Option Nd) : Prop where
 h6 : 6 < L.length
 h240 : L.length <= 240
 h8 : ∀ l ∈ L, SecOk l
 mg : (L.getD 0 []).take 5 = magicB
 nod : ∀ i x, i < 32 -> G i = some x -> NdOk L x /\ nod L i = x.b
 zer : ∀ i, i < 32 -> G i = none -> D.nod L i = z16
 dis : ∀ i j x y k, i < 32 -> j < 32 -> i ≠ j -> G i = some x -> G j = some y -> k ∈ chP x.ps -> k ∉ chP y.ps
 us : ∀ k, k < 1024 -> usd L k = ownB G 32 k
 root : ∃ x, G 0 = some x /\ x.kd = 2 /\ x.par = 0
theorem ydO (ps : List (Nat × Nat)) : (pcs ps).length = 2 * ps.length := by
 induction ps with
 | nil => rfl
 | cons p r ih =>
  have : pcs (p :: r) = (p.1 : Int) :: (p.2 : Int) :: pcs r := rfl
  rw [this, List.length_cons, List.length_cons, ih, List.length_cons]; omega
theorem yl5 : ∀ (ps : List (Nat × Nat)) (k : Nat) (p : Nat × Nat), ps[k]? = some p -> (pcs ps)[2 * k]? = some (p.1 : Int) /\ (pcs ps)[2 * k + 1]? = some (p.2 : Int)
 | [], k, p, h => by simp at h
 | q :: r, 0, p, h => by cases h; exact ⟨rfl, rfl⟩
 | q :: r, k + 1, p, h => by
  have e : pcs (q :: r) = (q.1 : Int) :: (q.2 : Int) :: pcs r := rfl
  rw [e, show 2 * (k + 1) = 2 * k + 1 + 1 by omega]
  exact yl5 r k p h
theorem yfU (kd par n : Nat) (ps : List (Nat × Nat)) (h : ps.length <= 4) : (nodB kd par n ps).length = 16 := by
 unfold nodB
 rw [List.length_append, List.length_append, ydO, List.length_replicate]
 simp only [List.length_cons, List.length_nil]; omega
theorem yjv (kd par n : Nat) (ps : List (Nat × Nat)) : (nodB kd par n ps).getD 0 0 = kd /\ (nodB kd par n ps).getD 1 0 = par /\ (nodB kd par n ps).getD 2 0 = ((n / 256 : Nat) : Int) /\ (nodB kd par n ps).getD 3 0 = ((n % 256 : Nat) : Int) := ⟨rfl, rfl, rfl, rfl⟩
theorem ygK (kd par n : Nat) (ps : List (Nat × Nat)) (j : Nat) : (nodB kd par n ps)[4 + j]? = (pcs ps ++ List.replicate (12 - 2 * ps.length) 0)[j]? := by
 unfold nodB
 rw [List.getElem?_append_right (by simp), show 4 + j - [(kd : Int), (par : Int), ((n / 256 : Nat) : Int), ((n % 256 : Nat) : Int)].length = j by simp]
theorem yme (kd par n : Nat) (ps : List (Nat × Nat)) : nsz (nodB kd par n ps) = (n : Int) := by
 obtain ⟨_, _, h2, h3⟩ := yjv kd par n ps
 unfold nsz
 rw [h2, h3]; omega
theorem yoY {N : Nat} (hN : N <= 240) (kd par n : Nat) (ps : List (Nat × Nat)) (hk : kd < 256) (hp : par < 256) (hn : n <= 65535) (h4 : ps.length <= 4) (hr : ∀ p ∈ ps, 6 <= p.1 /\ 1 <= p.2 /\ p.1 + p.2 <= N) : PcOk N (nodB kd par n ps) ps := by
 refine ⟨yfU _ _ _ _ h4, h4, fun k p hk => ?_, fun k h1 h2 => ?_, fun b hb => ?_⟩
 ·have hr' := hr p (List.mem_of_getElem? hk)
  have hkl := (List.getElem?_eq_some_iff.1 hk).1
  obtain ⟨g1, g2⟩ := yl5 ps k p hk
  have e1 : (nodB kd par n ps)[4 + 2 * k]? = some (p.1 : Int) := by rw [ygK, List.getElem?_append_left (by rw [ydO]; omega), g1]
  have e2 : (nodB kd par n ps)[5 + 2 * k]? = some (p.2 : Int) := by rw [show 5 + 2 * k = 4 + (2 * k + 1) by omega, ygK, List.getElem?_append_left (by rw [ydO]; omega), g2]
  exact ⟨yaa e1, yaa e2, hr'⟩
 ·have z : ∀ j, 2 * ps.length <= j -> j < 12 -> 2 * ps.length <= 12 -> (nodB kd par n ps)[4 + j]? = some 0 := fun j h1 h2 h3 => by
   rw [ygK, List.getElem?_append_right (by rw [ydO]; exact h1), ydO, List.getElem?_replicate, if_pos (by omega)]
  refine ⟨yaa (z (2 * k) (by omega) (by omega) (by omega)), ?_⟩
  rw [show 5 + 2 * k = 4 + (2 * k + 1) by omega]
  exact yaa (z (2 * k + 1) (by omega) (by omega) (by omega))
 ·unfold nodB at hb
  rcases List.mem_append.1 hb with h | h
  ·simp only [List.mem_cons, List.not_mem_nil, or_false] at h
   omega
  ·rcases List.mem_append.1 h with h | h
   ·unfold pcs at h
    obtain ⟨p, hp, hb⟩ := List.mem_flatMap.1 h
    have := hr p hp
    simp only [List.mem_cons, List.not_mem_nil, or_false] at hb
    omega
   ·rw [(List.mem_replicate.1 h).2]; omega
variable {L : List (List Int)} {G : Nat -> Option Nd}
theorem NdOk.pc {x : Nd} (h : NdOk L x) (hN : L.length <= 240) : PcOk L.length x.b x.ps := by
 refine yoY hN _ _ _ _ ?_ ?_ h.dl h.n4 h.rg
 ·rcases h.kd with e | e <;> omega
 ·have := h.pr; omega
theorem ykM {L : List (List Int)} {dt : List Int} : ∀ (l : List Int) (j : Nat), (∀ i c, l[i]? = some c -> L[c.toNat]? = some (blkP dt (j + i))) -> readL L l = (List.range l.length).flatMap fun i => blkP dt (j + i)
 | [], j, _ => rfl
 | c :: l, j, h => by
  have h0 := h 0 c rfl
  have ih := ykM l (j + 1) fun i d hi => by rw [show j + 1 + i = j + (i + 1) by omega]; exact h (i + 1) d hi
  have e : readL L (c :: l) = L.getD c.toNat [] ++ readL L l := by simp [readL]
  rw [e, ih, yaa h0, List.length_cons, List.range_succ_eq_map, List.flatMap_cons, List.flatMap_map]
  simp only [Nat.add_zero, Nat.add_assoc, Nat.add_comm 1]
theorem NdOk.cnt {x : Nd} (h : NdOk L x) : cntP L x.b x.ps = x.dt := by
 unfold cntP
 have e : (nsz x.b).toNat = x.dt.length := by
  show (nsz (nodB x.kd x.par x.dt.length x.ps)).toNat = _
  rw [yme]; rfl
 rw [e, ykM (chP x.ps) 0 fun i c hi => by rw [Nat.zero_add]; exact h.sec i c hi, h.cl]
 have := yg6 (need x.dt.length) x.dt rfl
 simpa using this
theorem FRep.bnd (R : FRep L G) {i : Nat} (hi : i < 32) : 2 + i / 8 < L.length := by have := R.h6; omega
theorem FRep.pcok (R : FRep L G) {i : Nat} {x : Nd} (hi : i < 32) (hx : G i = some x) : PcOk L.length (D.nod L i) x.ps := by
 obtain ⟨h1, h2⟩ := R.nod i x hi hx
 rw [h2]; exact h1.pc R.h240
theorem ycZ (R : FRep L G) {i : Nat} {x : Nd} (hi : i < 32) (hx : G i = some x) (T S : Int) (v : Value) (H : AH) (Q : Value -> AH -> Prop) (hs : Secs H v L)
  (hq : ∀ w H', OwnB H.n H' w x.dt -> HExt H H' -> Q w H') : Got (xc Tryz.prog tab 38 [.agg #[.int .i64 T, .int .i64 S, v], .int .i64 (i : Int)] H) Q := by
 obtain ⟨h1, h2⟩ := R.nod i x hi hx
 refine ylw T S v L i x.ps H Q hs R.h8 R.h240 (R.bnd hi) (by omega) (R.pcok hi hx) ?_ ?_
 ·rw [h2, h1.cl]
  show (nsz (nodB x.kd x.par x.dt.length x.ps)).toNat <= _
  rw [yme]
  have := h1.dl
  unfold need; omega
 ·rw [h2, h1.cnt]
  exact hq
theorem ybS (R : FRep L G) {i : Nat} (hi : i < 32) (T S : Int) (v : Value) (H0 H : AH) (x0 : HExt H0 H) (Q : Value -> AH -> Prop) (hs : Secs H0 v L)
  (hq : ∀ H' s', HExt H H' -> Byts H0 s' (D.nod L i) -> Q s' H') : Got (xc Tryz.prog tab 37 [.agg #[.int .i64 T, .int .i64 S, v], .int .i64 (i : Int)] H) Q :=
 yjf T S v L i H0 H x0 Q hs R.h8 (R.bnd hi) (by omega) hq
theorem ymr {x : Nd} (h : NdOk L x) : (((chP x.ps).length : Int) == (x.b.getD 2 0 * 256 + x.b.getD 3 0 + 127) / 128) = true := by
 obtain ⟨_, _, h2, h3⟩ := yjv x.kd x.par x.dt.length x.ps
 have e2 : x.b.getD 2 0 = ((x.dt.length / 256 : Nat) : Int) := h2
 have e3 : x.b.getD 3 0 = ((x.dt.length % 256 : Nat) : Int) := h3
 rw [e2, e3, h.cl, beq_iff_eq]
 unfold need; omega
theorem FRep.b0 (R : FRep L G) {i : Nat} (hi : i < 32) : (D.nod L i).getD 0 0 = match G i with | some x => (x.kd : Int) | none => 0 := by
 cases h : G i with
 | none => rw [R.zer i hi h]; rfl
 | some x => rw [(R.nod i x hi h).2]; rfl
theorem FRep.b1 (R : FRep L G) {i : Nat} (hi : i < 32) : (D.nod L i).getD 1 0 = match G i with | some x => (x.par : Int) | none => 0 := by
 cases h : G i with
 | none => rw [R.zer i hi h]; rfl
 | some x => rw [(R.nod i x hi h).2]; rfl
end Go.Proofs.YtnjjnnfpnjjccaaGreatDoor.D
set_option linter.unusedSimpArgs false
set_option linter.unusedVariables false
namespace Go.Proofs.YtnjjnnfpnjjccaaGreatDoor.D
open Go Go.Det
variable {L : List (List Int)} {G : Nat -> Option Nd}
def ownA (f : Nat -> Bool) : List Bool := (List.range 1024).map f
theorem ycs (f : Nat -> Bool) : (ownA f).length = 1024 := by simp [ownA]
theorem yeo (f : Nat -> Bool) (k : Nat) (hk : k < 1024) : (ownA f)[k]? = some (f k) := by
 unfold ownA
 rw [List.getElem?_map, List.getElem?_range hk]; rfl
theorem ykR (f g : Nat -> Bool) (k : Nat) (h : ∀ j, j < 1024 -> g j = if j = k then true else f j) : (ownA f).set k true = ownA g := by
 refine List.ext_getElem? fun j => ?_
 rcases Nat.lt_or_ge j 1024 with hj | hj
 ·rw [yeo g j hj, h j hj, List.getElem?_set]
  by_cases e : k = j
  ·subst e
   rw [if_pos rfl, if_pos (by rw [ycs]; exact hj), if_pos rfl]
  ·rw [if_neg e, if_neg (fun h => e h.symm), yeo f j hj]
 ·rw [List.getElem?_eq_none (by rw [List.length_set, ycs]; exact hj), List.getElem?_eq_none (by rw [ycs]; exact hj)]
theorem yjt (G : Nat -> Option Nd) (i k : Nat) : ownB G (i + 1) k = (ownB G i k || match G i with | some x => (chP x.ps).contains (k : Int) | none => false) := by
 unfold ownB
 rw [List.range_succ, List.any_append, Bool.or_assoc]
 simp only [List.any_cons, List.any_nil, Bool.or_false]
 try rfl
theorem ownB_true {G : Nat -> Option Nd} {i k : Nat} : ownB G i k = true ↔ k < 6 \/ ∃ j x, j < i /\ G j = some x /\ (k : Int) ∈ chP x.ps := by
 unfold ownB
 rw [Bool.or_eq_true, decide_eq_true_eq, List.any_eq_true]
 refine or_congr Iff.rfl ⟨?_, ?_⟩
 ·rintro ⟨j, hj, h⟩
  cases hx : G j with
  | none => rw [hx] at h; cases h
  | some x =>
   have h' : (chP x.ps).contains (k : Int) = true := by rw [hx] at h; exact h
   exact ⟨j, x, List.mem_range.1 hj, hx, List.contains_iff_mem.1 h'⟩
 ·rintro ⟨j, x, hj, hx, h⟩
  refine ⟨j, List.mem_range.2 hj, ?_⟩
  rw [hx]
  exact List.contains_iff_mem.2 h
theorem nzF : isNZ (.func (.func 92) #[] #[]) := by
 intro x H
 show xc Tryz.prog tab 92 [.int .u8 x] H = _
 refine ycd (yac (res := [.tmp 2]) rfl ?_)
 simp only [zZ, zY, ofArgs, q_f, q_m, q_W, ev, xbin, ibin, qb_A, qb_B, qb_C, resV, qb_D, if_true, if_false, reduceCtorEq, Nat.reduceEqDiff, Nat.reduceLT, true_and]
theorem FRep.rng (R : FRep L G) {i : Nat} {x : Nd} (hi : i < 32) (hx : G i = some x) : ∀ c ∈ chP x.ps, 6 <= c /\ c < (L.length : Int) := ykm (R.pcok hi hx)
theorem yo0 {l : List Int} (h : l.Nodup) {m : Nat} {c : Int} (hc : l[m]? = some c) : c ∉ l.take m := by
 intro hm
 obtain ⟨j, hj⟩ := List.getElem?_of_mem hm
 have hlt := (List.getElem?_eq_some_iff.1 hj).1
 rw [List.length_take] at hlt
 rw [List.getElem?_take, if_pos (by omega)] at hj
 obtain ⟨h1, e1⟩ := List.getElem?_eq_some_iff.1 hj
 obtain ⟨h2, e2⟩ := List.getElem?_eq_some_iff.1 hc
 have := (List.getElem_inj h).1 (e1.trans e2.symm)
 omega
set_option maxHeartbeats 8000000 in
theorem ynG (R : FRep L G) (T S : Int) (v : Value) (H : AH) (Q : Value -> AH -> Prop) (hs : Secs H v L) (hT : 1 <= T) (hT2 : T <= 20) (hS : 1 <= S) (hS2 : S <= 12) (hLL : (L.length : Int) = T * S)
  (hq : ∀ H', HExt H H' -> Q (.int .i64 0) H') : Got (xc Tryz.prog tab 56 [.agg #[.int .i64 T, .int .i64 S, v]] H) Q := by
 have h8 := R.h8
 have h6 := R.h6
 have h240 := R.h240
 refine yac (res := [.tmp 2]) rfl ?_
 have vA : vcells (.agg #[.int .i64 T, .int .i64 S, v]) = [.int .i64 T, .int .i64 S, v] := rfl
 have b := Bx.new H [.int .i64 T, .int .i64 S, v]
 have x := yab H ⟨[.int .i64 T, .int .i64 S, v], 1, false, false⟩
 generalize hTT : ((.seq (.seq (.ops (⟨some 13, _, _⟩ :: _) _) _) _) : XCode) = TT
 simp only [zZ, zY, ofArgs, qb_j, ev, if_true, if_false, reduceCtorEq, Nat.reduceEqDiff, Nat.reduceLT, vA]
 generalize H.push ⟨[.int .i64 T, .int .i64 S, v], 1, false, false⟩ = H1 at *
 have ldn := b.ldn 3 rfl
 subst hTT
 generalize hTT : ((.seq (.seq (.ops (⟨some 18, _, _⟩ :: _) _) _) _) : XCode) = TT
 simp only [zZ, zY, q_U, q_W, v_ld, ev, qb_p, qb_q, xbin, ibin, if_true, if_false, Nat.reduceEqDiff, Nat.reduceLT, ldn]
 refine yh4 T S v H1 L _ (Secs.ext x hs) (fun l hl => (h8 l hl).1) hT hT2 hS hS2 hLL ?_
 intro H2 x2
 have b2 := b.ext x2
 have x12 := x.trans x2
 have l2 := b2.ld 2 v rfl
 have ldn2 := b2.ldn 3 rfl
 have hsB := Secs.ext x12 hs
 have hv2 := hsB.len
 have c6 : ¬ (L.length : Int) <= 6 := by omega
 obtain ⟨e, e1, e2, e3⟩ := hsB.at 0 0 rfl (by omega)
 have hl0 := (h8 _ (List.getElem_mem (by omega : 0 < L.length))).1
 obtain ⟨s', k1, bs⟩ := yf3 (lo := none) (hi := some (.int .i64 5)) (i := 0) (h := 5) e3 (by omega) rfl rfl (by omega) (by omega)
 have hmg := R.mg
 rw [yaa (List.getElem?_eq_getElem (by omega : 0 < L.length))] at hmg
 rw [List.drop_zero, Nat.sub_zero, hmg] at bs
 have t2 := yj5 bs
 have nq := sbn yfW yfW
 have dt : decide (magicB = magicB) = true := decide_eq_true rfl
 rw [dt] at nq
 subst hTT
 generalize hTT : ((.seq (.ops (⟨some 43, _, _⟩ :: _) _) _) : XCode) = TT
 simp only [zZ, zY, q_d, q_t, q_C, q_L, q_M, q_N, q_O, Bool.false_and, zE, cond_false, q_U, q_W, q_X, q_Z, v_ld, qb_e, qb_h, qb_o, ev, qb_p, qb_q, xbin, ibin, if_true, if_false, Nat.reduceEqDiff, Nat.reduceLT, bne_self_eq_false, fldAk, l2, ldn2, hv2, c6, decide_false, e1, e2, k1, v_b2s, t2, ygQ, nq]
 obtain ⟨rx, rx0, rx1, rx2⟩ := R.root
 refine ybS (i := 0) R (by omega) T S v H2 H2 (HExt.refl H2) _ hsB ?_
 intro H3 s3 x3 hb3
 have ldn3 := (b2.ext x3).ldn 3 rfl
 have hn0 := ycE L 0 h8 (R.bnd (by omega))
 have hb3' : Byts H3 s3 (nod L 0) := Sl.ext x3 hb3
 have i0 := yam hb3' 0 0 rfl (by omega)
 have d0 := yaJ hb3' 0 _ (ya6 (nod L 0) 0 (by omega))
 have hr0 : (nod L 0).getD 0 0 = 2 := by rw [R.b0 (by omega), rx0]; simp [rx1]
 have hr1 : (nod L 0).getD 1 0 = 0 := by rw [R.b1 (by omega), rx0]; simp [rx2]
 rw [hr0] at d0
 simp only [zZ, zY, q_t, q_U, q_W, q_Z, v_ld, qb_o, ev, qb_p, qb_q, xbin, ibin, if_true, if_false, Nat.reduceEqDiff, Nat.reduceLT, ldn3, i0, d0, bne_self_eq_false]
 refine ybS (i := 0) R (by omega) T S v H2 H3 x3 _ hsB ?_
 intro H4 s4 x4 hb4
 have x24 := x3.trans x4
 have hb4' : Byts H4 s4 (nod L 0) := Sl.ext x24 hb4
 have i1 := yam hb4' 1 1 rfl (by omega)
 have d1 := yaJ hb4' 1 _ (ya6 (nod L 0) 1 (by omega))
 rw [hr1] at d1
 have b4 := b2.ext x24
 have hmk := ydQ (.bool false) 1024 (by omega) .i64 H4 1024 rfl
 have x5 := yab H4 ⟨rep 1024 [.bool false], 1, false, false⟩
 subst hTT
 generalize hTT : ((.seq (.seq (.ops (⟨some 44, _, _⟩ :: []) _) _) _) : XCode) = TT
 simp only [zZ, zY, q_d, q_C, qb_k, ev, if_true, if_false, Nat.reduceEqDiff, Nat.reduceLT, i1, d1, bne_self_eq_false, hmk]
 have u5 : OwnU H4.n (H4.push ⟨rep 1024 [.bool false], 1, false, false⟩) (.slice (some ⟨H4.n, 0, none⟩) 1024 1024) (ownA fun k => decide (k < 0)) := by
  have := Own.pushed H4 (rep 1024 [.bool false]) 1 1024 false (by rw [yaB]; rfl)
  unfold OwnU
  have e : ownA (fun k => decide (k < 0)) = List.replicate 1024 false := by
   refine List.ext_getElem? fun j => ?_
   rcases Nat.lt_or_ge j 1024 with hj | hj
   ·rw [yeo _ j hj, List.getElem?_replicate, if_pos hj]; simp
   ·rw [List.getElem?_eq_none (by rw [ycs]; exact hj), List.getElem?_eq_none (by rw [List.length_replicate]; exact hj)]
  rw [e, List.length_replicate]
  rw [yel] at this ⊢
  exact this
 have b5 := b4.ext x5
 have x25 := x24.trans x5
 generalize H4.push ⟨rep 1024 [.bool false], 1, false, false⟩ = H5 at *
 generalize Value.slice (some ⟨H4.n, 0, none⟩) 1024 1024 = u at *
 subst hTT
 generalize hTT : ((.seq (.seq (.ops (⟨some 51, _, _⟩ :: []) _) _) _) : XCode) = TT
 simp only [zZ, zY, q_b, ev, if_true, if_false, Nat.reduceEqDiff, Nat.reduceLT]
 refine yaz (fun k fr H' => HExt H4 H' /\ OwnU H4.n H' u (ownA fun j => decide (j < k)) /\ fr = [(1, .pointer (some ⟨H.n, 0, none⟩)), (4, u), (44, .int .i64 (k : Int))]) 6 ⟨x5, u5, rfl⟩ ?_ ?_
 ·rintro k hk fr H6 ⟨x6, u6, rfl⟩ J hJ
  have hlt : (k : Int) < 6 := by omega
  have w3 := wrS k (by omega)
  have iu := yau u6.1 .i64 (k : Int) k rfl (by rw [ycs]; omega)
  simp only [zZ, zY, ydh, q_b, q_d, q_j, q_B, q_W, q_Z, v_st, ev, qb_v, xbin, ibin, if_true, if_false, Nat.reduceEqDiff, Nat.reduceLT, hlt, decide_true, iu]
  refine u6.flip (by rw [ycs]; omega) ?_
  intro H7 u7 s7
  have k7 := s7.keep u6 x6.1
  simp only [w3]
  rw [ykR _ (fun j => decide (j < k + 1)) k (fun j hj => by
   by_cases e : j = k
   ·subst e; simp
   ·rw [if_neg e]; have : (j < k + 1) ↔ (j < k) := by omega
    simp [this])] at u7
  exact hJ _ _ ⟨Keep.trans (n0 := H4.n) x6 k7, u7, rfl⟩
 ·rintro fr H6 ⟨x6, u6, rfl⟩
  have n6 : ¬ ((6 : Nat) : Int) < 6 := by omega
  subst hTT
  generalize hTT : ((.seq (.seq (.ops (⟨some 92, _, _⟩ :: _) _) _) _) : XCode) = TT
  simp only [zZ, zY, ydh, q_b, q_e, q_h, q_j, q_k, q_C, q_W, q_Z, v_st, ev, qb_v, xbin, ibin, if_true, if_false, Nat.reduceEqDiff, Nat.reduceLT, n6, decide_false]
  refine yaz (fun i fr H' => HExt H4 H' /\ OwnU H4.n H' u (ownA (ownB G i)) /\ fr = [(1, .pointer (some ⟨H.n, 0, none⟩)), (4, u), (51, .int .i64 (i : Int))]) 32 ⟨x6, ?_, rfl⟩ ?_ ?_
  ·have : (ownB G 0) = fun j => decide (j < 6) := by
    funext j
    unfold ownB; simp
   rw [this]; exact u6
  ·rintro i hi fr H7 ⟨x7, u7, rfl⟩ J hJ
   have hlt : (i : Int) < 32 := by omega
   have w3 := wrS i (by omega)
   have b7 := b4.ext x7
   have ldn7 := b7.ldn 3 rfl
   have hsD := Secs.ext x24 hsB
   generalize hII : ((.ops [⟨some 91, .bin .add (.tmp 51) (.const (.int .i64 1)), none⟩, ⟨some 51, .mov (.tmp 91), none⟩] [1, 4, 51]) : XCode) = II
   unfold ydf
   rw [hII]
   generalize hT2 : ((.seq (.seq (.ops (⟨some 57, _, _⟩ :: _) _) _) _) : XCode) = T2
   simp only [zZ, zY, q_b, q_d, q_B, q_U, q_W, v_ld, ev, qb_p, qb_q, xbin, ibin, if_true, if_false, Nat.reduceEqDiff, Nat.reduceLT, hlt, decide_true, ldn7]
   refine ybS R hi T S v H4 H7 x7 _ hsD ?_
   intro H8 s8 x8 hb8
   have x48 := x7.trans x8
   have hnl := ycE L i h8 (R.bnd hi)
   have hb8' : Byts H8 s8 (nod L i) := Sl.ext x48 hb8
   have i0 := yam hb8' 0 0 rfl (by omega)
   have d0 := yaJ hb8' 0 _ (ya6 (nod L i) 0 (by omega))
   rw [R.b0 hi] at d0
   have u8 : OwnU H4.n H8 u (ownA (ownB G i)) := Own.ext x8 u7
   have ldn8 := (b4.ext x48).ldn 3 rfl
   cases hG : G i with
   | none =>
    rw [hG] at d0
    have hz := R.zer i hi hG
    have Cx := ydW _ nzF (nod L i) (by omega) s8 H8 hb8'
    rw [hz] at Cx
    have any0 : z16.any (fun x => x != 0) = false := by decide
    rw [any0] at Cx
    subst hT2 hII
    have e00 : ((0 : Int) == 0) = true := rfl
    simp only [zZ, zY, q_b, q_d, q_e, q_h, q_k, q_B, q_C, q_U, q_W, q_X, q_Y, q_Z, v_ld, ev, qb_p, qb_q, xbin, ibin, if_true, if_false, Nat.reduceEqDiff, Nat.reduceLT, i0, d0, e00, Cx, w3]
    refine hJ _ _ ⟨x48, ?_, rfl⟩
    have : ownB G (i + 1) = ownB G i := by
     funext k
     rw [yjt, hG, Bool.or_false]
    rw [this]; exact u8
   | some nd =>
    rw [hG] at d0
    obtain ⟨ok, hnb⟩ := R.nod i nd hi hG
    have ck : ((nd.kd : Int) == 0) = false := by rw [beq_eq_false_iff_ne]; rcases ok.kd with h | h <;> omega
    have cg : ¬ ((nd.kd : Int) > 2) := by rcases ok.kd with h | h <;> omega
    subst hT2
    generalize hT2 : ((.seq (.seq (.ops (⟨some 69, _, _⟩ :: _) _) _) _) : XCode) = T2
    have d0' : pLd none (ptrAt s8 0) H8 = some (.int .u8 (nd.kd : Int), H8) := d0
    simp only [zZ, zY, q_d, q_C, q_U, q_W, q_Y, q_Z, v_ld, ev, qb_p, qb_q, xbin, ibin, if_true, if_false, Nat.reduceEqDiff, Nat.reduceLT, i0, d0', ck, ldn8]
    refine yfj T S v s8 L (nod L i) nd.ps H8 _ (Secs.ext x8 (Secs.ext x7 hsD)) h240 hb8' (R.pcok hi hG) ?_
    intro w H9 ow x9
    have x49 := x48.trans x9
    rw [hnb, ymr ok]
    have hb9 : Byts H9 s8 (nod L i) := Sl.ext x49 hb8
    have i9 := yam hb9 0 0 rfl (by omega)
    have d9 := yaJ hb9 0 _ (ya6 (nod L i) 0 (by omega))
    rw [R.b0 hi, hG] at d9
    have d9' : pLd none (ptrAt s8 0) H9 = some (.int .u8 (nd.kd : Int), H9) := d9
    have lw := yct ow.1
    have u9 : OwnU H4.n H9 u (ownA (ownB G i)) := Own.ext x9 u8
    have hrg := R.rng hi hG
    have hwl := ow.1
    have hcl := ok.cl
    have hdl := ok.dl
    have hneed : need nd.dt.length <= 512 := ykU _ hdl
    have hwu : ∀ b, inB w b -> ¬ inB u b := fun b h1 h2 => by
     have h3 : H8.n <= b := Own.geB ow h1
     have h4 := u8.1.lt h2
     omega
    subst hT2
    simp only [zZ, zY, q_b, q_d, q_t, q_C, q_E, q_J, q_P, q_Q, zE, q_W, q_X, q_Z, v_ld, qb_o, ev, xbin, ibin, if_true, if_false, Nat.reduceEqDiff, Nat.reduceLT, i9, d9', cg, decide_false, lw]
    generalize hcc : chP nd.ps = cs at *
    refine yaz (fun m fr H' => HExt H4 H' /\ Ints H' w cs /\ OwnU H4.n H' u (ownA fun k => ownB G i k || (cs.take m).contains (k : Int)) /\ fr = [(1, .pointer (some ⟨H.n, 0, none⟩)), (4, u), (51, .int .i64 (i : Int)), (77, w), (78, .int .i64 (cs.length : Int)), (79, .int .i64 (m : Int))]) cs.length ⟨x49, hwl, ?_, rfl⟩ ?_ ?_
    ·have : (fun k : Nat => ownB G i k || (cs.take 0).contains (k : Int)) = ownB G i := by funext k; simp
     rw [this]; exact u9
    ·rintro m hm fr HA ⟨xA, iA, uA, rfl⟩ J2 hJ2
     have hlt : (m : Int) < (cs.length : Int) := by omega
     have w4 := wrS m (by omega)
     obtain ⟨c, hc⟩ : ∃ c, cs[m]? = some c := ⟨_, List.getElem?_eq_getElem hm⟩
     have hr := hrg c (List.mem_of_getElem? hc)
     obtain ⟨q, rfl⟩ : ∃ q : Nat, c = (q : Int) := ⟨c.toNat, by omega⟩
     have j1 := ydT iA (m : Int) m rfl hm
     have j2 := yeH iA m _ hc
     have hq1 : q < 1024 := by omega
     have iu := yau uA.1 .i64 (q : Int) q rfl (by rw [ycs]; exact hq1)
     have hf : (ownB G i q || (cs.take m).contains (q : Int)) = false := by
      rw [Bool.or_eq_false_iff]
      refine ⟨?_, ?_⟩
      ·rw [Bool.eq_false_iff]
       intro h
       rcases ownB_true.1 h with h | ⟨j, y, hj, hy, hm'⟩
       ·omega
       ·exact R.dis j i y nd (q : Int) (by omega) hi (by omega) hy hG hm' (by rw [hcc]; exact List.mem_of_getElem? hc)
      ·rw [Bool.eq_false_iff]
       intro h
       have hnd := ok.nd
       rw [hcc] at hnd
       exact yo0 hnd hc (List.contains_iff_mem.1 h)
     have du := yaV uA.1 q (.bool false) (by rw [List.getElem?_map, yeo _ q hq1, hf]; rfl)
     simp only [zZ, zY, ydg, q_b, q_d, q_j, q_B, q_C, q_W, q_Z, v_ld, v_st, ev, qb_v, xbin, ibin, if_true, if_false, Nat.reduceEqDiff, Nat.reduceLT, hlt, decide_true, j1, j2, iu, du]
     refine uA.flip (by rw [ycs]; exact hq1) ?_
     intro HB uB sB'
     have kB := sB'.keep uA xA.1
     have iB : Ints HB w cs := Sl.same iA sB'.n fun b hb => sB'.get b (iA.lt b hb) (hwu b hb)
     simp only [w4]
     rw [ykR _ (fun k => ownB G i k || (cs.take (m + 1)).contains (k : Int)) q (fun j hj => by
      rw [yal _ _ _ hc]
      by_cases e : j = q
      ·subst e; simp
      ·rw [if_neg e]
       have : ((cs.take m ++ [(q : Int)]).contains (j : Int)) = (cs.take m).contains (j : Int) := by
        rw [Bool.eq_iff_iff, List.contains_iff_mem, List.contains_iff_mem, List.mem_append, List.mem_singleton]
        refine ⟨fun h => h.elim id fun h => absurd (by omega : j = q) e, .inl⟩
       rw [this])] at uB
     exact hJ2 _ _ ⟨Keep.trans (n0 := H4.n) xA kB, iB, uB, rfl⟩
    ·rintro fr HA ⟨xA, iA, uA, rfl⟩
     subst hII
     simp only [zZ, zY, ydg, q_b, q_e, q_h, q_j, q_k, q_C, q_W, q_Z, v_ld, v_st, ev, qb_v, xbin, ibin, if_true, if_false, Nat.reduceEqDiff, Nat.reduceLT, Int.lt_irrefl, decide_false, w3]
     refine hJ _ _ ⟨xA, ?_, rfl⟩
     have : ownB G (i + 1) = fun k : Nat => ownB G i k || (cs.take cs.length).contains (k : Int) := by
      funext k
      rw [yjt, hG, List.take_length]
      simp only [hcc]
     rw [this]; exact uA
  ·rintro fr H7 ⟨x7, u7, rfl⟩
   have n32 : ¬ ((32 : Nat) : Int) < 32 := by omega
   have lu := ybC u7.1
   rw [ycs] at lu
   subst hTT
   simp only [zZ, zY, ydf, q_b, q_e, q_f, q_h, q_k, q_m, q_C, q_U, q_W, q_X, q_Y, q_Z, v_ld, ev, qb_p, qb_q, xbin, ibin, qb_A, qb_B, qb_C, if_true, if_false, Nat.reduceEqDiff, Nat.reduceLT, n32, decide_false, lu]
   refine yaz (fun k fr H' => HExt H4 H' /\ OwnU H4.n H' u (ownA (ownB G 32)) /\ fr = [(1, .pointer (some ⟨H.n, 0, none⟩)), (4, u), (93, .int .i64 ((1024 : Nat) : Int)), (94, .int .i64 (k : Int))]) 1024 ⟨x7, u7, rfl⟩ ?_ ?_
   ·rintro k hk fr H8 ⟨x8, u8, rfl⟩ J hJ
    have hlt : (k : Int) < ((1024 : Nat) : Int) := by omega
    have w3 := wrS k (by omega)
    have iu := yau u8.1 .i64 (k : Int) k rfl (by rw [ycs]; exact hk)
    have du := yaV u8.1 k (.bool (ownB G 32 k)) (by rw [List.getElem?_map, yeo _ k hk]; rfl)
    have b8 := b4.ext x8
    have ldn8 := b8.ldn 3 rfl
    have hus := R.us k hk
    simp only [zZ, zY, yde, q_b, q_d, q_B, q_W, ev, xbin, ibin, if_true, if_false, Nat.reduceEqDiff, Nat.reduceLT, hlt, decide_true]
    refine ybQ _ _ _ _ _ ?_
    simp only [zZ, zY, q_U, q_Z, v_ld, ev, qb_p, qb_q, if_true, if_false, reduceCtorEq, Nat.reduceEqDiff, Nat.reduceLT, Nat.zero_add, Nat.reduceAdd, and_true, qb_E, qb_F, hs0, hs1, hs2, qb_G, qb_H, qb_I, qb_J, qb_K, qb_L, qb_M, iu, du, ldn8]
    refine ykw T S v L k H8 _ (Secs.ext x8 (Secs.ext x24 hsB)) h8 (by omega) hk ?_
    intro H9 x9
    have u9 : OwnU H4.n H9 u (ownA (ownB G 32)) := Own.ext x9 u8
    have du9 := yaV u9.1 k (.bool (ownB G 32 k)) (by rw [List.getElem?_map, yeo _ k hk]; rfl)
    have nq : (ownB G 32 k != usd L k) = false := by rw [hus]; simp
    simp only [zZ, zY, q_d, q_j, q_C, q_G, ev, if_true, if_false, Nat.reduceEqDiff, Nat.reduceLT, true_and, qb_S, v_nqb ty4, nq, du9, w3]
    exact hJ _ _ ⟨x8.trans x9, u9, rfl⟩
   ·rintro fr H8 ⟨x8, u8, rfl⟩
    simp only [zZ, zY, yde, q_b, q_e, q_h, q_k, q_C, q_W, ev, xbin, ibin, resV, qb_D, if_true, if_false, Nat.reduceEqDiff, Nat.reduceLT, Int.lt_irrefl, decide_false]
    exact hq H8 ((x12.trans x24).trans x8)
end Go.Proofs.YtnjjnnfpnjjccaaGreatDoor.D
set_option linter.unusedSimpArgs false
set_option linter.unusedVariables false
namespace Go.Proofs.YtnjjnnfpnjjccaaGreatDoor.D
open Go Go.Det
inductive Ent where
 | fil (par : Nat) (dt : List Int)
 | dir (par : Nat) (its : List (List Int × Nat))
def Ent.par : Ent -> Nat
 | .fil p _ => p
 | .dir p _ => p
def Ent.kd : Ent -> Nat
 | .fil _ _ => 1
 | .dir _ _ => 2
def Ent.dt : Ent -> List Int
 | .fil _ d => d
 | .dir _ its => dirB its
def GT (F : Nat -> Option Ent) (P : Nat -> List (Nat × Nat)) (i : Nat) : Option Nd := (F i).map fun e => ⟨e.kd, e.par, P i, e.dt⟩
structure TOk (F : Nat -> Option Ent) : Prop where
 root : ∃ its, F 0 = some (.dir 0 its)
 its : ∀ i p its, F i = some (.dir p its) -> Srt its /\ its.length <= 31 /\ (its.map (·.2)).Nodup /\ ∀ q ∈ its, ItOk q /\ q.2 < 32 /\ q.2 ≠ 0 /\ ∃ e, F q.2 = some e /\ e.par = i
 up : ∀ j e, j ≠ 0 -> F j = some e -> ∃ nm p its, F e.par = some (.dir p its) /\ (nm, j) ∈ its
 bd : ∀ i e, F i = some e -> i < 32
 dep : ∃ d : Nat -> Nat, d 0 = 0 /\ ∀ i p its, F i = some (.dir p its) -> ∀ q ∈ its, d q.2 = d i + 1 /\ d q.2 <= 8
inductive Des (F : Nat -> Option Ent) (i : Nat) : Nat -> Prop where
 | one {p its q} : F i = some (.dir p its) -> q ∈ its -> Des F i q.2
 | step {k p its q} : Des F i k -> F k = some (.dir p its) -> q ∈ its -> Des F i q.2
variable {L : List (List Int)} {F : Nat -> Option Ent} {P : Nat -> List (Nat × Nat)}
theorem Des.d {d : Nat -> Nat} (hd : ∀ i p its, F i = some (.dir p its) -> ∀ q ∈ its, d q.2 = d i + 1 /\ d q.2 <= 8) {i j : Nat} (h : Des F i j) : d i < d j := by
 induction h with
 | one h1 h2 => have := hd _ _ _ h1 _ h2; omega
 | step _ h1 h2 ih => have := hd _ _ _ h1 _ h2; omega
theorem Des.last {i j : Nat} (h : Des F i j) : ∃ k p its q, (k = i \/ Des F i k) /\ F k = some (.dir p its) /\ q ∈ its /\ q.2 = j := by
 cases h with
 | one h1 h2 => exact ⟨_, _, _, _, .inl rfl, h1, h2, rfl⟩
 | step h0 h1 h2 => exact ⟨_, _, _, _, .inr h0, h1, h2, rfl⟩
theorem TOk.par1 (K : TOk F) {k k' p p' : Nat} {its its' : List (List Int × Nat)} {q q' : List Int × Nat} (h1 : F k = some (.dir p its)) (h2 : q ∈ its) (h3 : F k' = some (.dir p' its')) (h4 : q' ∈ its') (e : q.2 = q'.2) : k = k' := by
 obtain ⟨_, _, _, a⟩ := K.its k p its h1
 obtain ⟨_, _, _, b⟩ := K.its k' p' its' h3
 obtain ⟨_, _, _, x, x1, x2⟩ := a q h2
 obtain ⟨_, _, _, y, y1, y2⟩ := b q' h4
 rw [e] at x1
 rw [x1] at y1
 cases y1
 exact x2.symm.trans y2
theorem Des.uniq (K : TOk F) {d : Nat -> Nat} (hd : ∀ i p its, F i = some (.dir p its) -> ∀ q ∈ its, d q.2 = d i + 1 /\ d q.2 <= 8) {a j : Nat} (h : Des F a j) : ∀ b, Des F b j -> d a = d b -> a = b := by
 induction h with
 | one h1 h2 =>
  intro b hb he
  obtain ⟨k, p, its, q, hk, k1, k2, k3⟩ := hb.last
  have := K.par1 h1 h2 k1 k2 k3.symm
  subst this
  rcases hk with rfl | hk
  ·rfl
  ·have := hk.d hd; omega
 | step h0 h1 h2 ih =>
  intro b hb he
  obtain ⟨k, p, its, q, hk, k1, k2, k3⟩ := hb.last
  have := K.par1 h1 h2 k1 k2 k3.symm
  subst this
  rcases hk with rfl | hk
  ·have := h0.d hd; omega
  ·exact ih b hk he
theorem ycl {i : Nat} {e : Ent} (h : F i = some e) : GT F P i = some ⟨e.kd, e.par, P i, e.dt⟩ := by unfold GT; rw [h]; rfl
theorem ygV {i : Nat} (h : F i = none) : GT F P i = none := by unfold GT; rw [h]; rfl
theorem tb0 (R : FRep L (GT F P)) {i : Nat} {e : Ent} (hi : i < 32) (h : F i = some e) : (nod L i).getD 0 0 = (e.kd : Int) := by rw [R.b0 hi, ycl h]
theorem tb1 (R : FRep L (GT F P)) {i : Nat} {e : Ent} (hi : i < 32) (h : F i = some e) : (nod L i).getD 1 0 = (e.par : Int) := by rw [R.b1 hi, ycl h]
theorem tb0n (R : FRep L (GT F P)) {i : Nat} (hi : i < 32) (h : F i = none) : (nod L i).getD 0 0 = 0 := by rw [R.b0 hi, ygV h]
theorem Ent.kd_le (e : Ent) : e.kd = 1 \/ e.kd = 2 := by cases e <;> simp [Ent.kd]
theorem ycx {u : Value} {A B C : AH} (h : Stp u A u B) (k : Stp u B u C) : Stp u A u C := ⟨Nat.le_trans h.n k.n, fun b hb hn => (k.get b (Nat.lt_of_lt_of_le hb h.n) hn).trans (h.get b hb hn), fun b h => .inl h⟩
theorem ybh (u : Value) {A B : AH} (h : HExt A B) : Stp u A u B := ⟨h.1, fun b hb _ => h.2 b hb, fun b h => .inl h⟩
theorem ykC {u : Value} {A B : AH} {E : Nat} {cs : List Value} (h : Stp u A u B) (b : Bx A E cs) (hE : ¬ inB u E) : Bx B E cs := b.same h.n (h.get E b.2 hE)
theorem nbyte (R : FRep L (GT F P)) {i : Nat} (hi : i < 32) {H : AH} {s : Value} (hb : Byts H s (nod L i)) (j : Nat) (hj : j < 16) : pIdx 1 s (.int .i64 (j : Int)) H = some (ptrAt s j, H) /\ pLd none (ptrAt s j) H = some (.int .u8 ((nod L i).getD j 0), H) := by
 have hn := ycE L i R.h8 (R.bnd hi)
 exact ⟨yam hb (j : Int) j rfl (by omega), yaJ hb j _ (ya6 (nod L i) j (by omega))⟩
end Go.Proofs.YtnjjnnfpnjjccaaGreatDoor.D
set_option linter.unusedSimpArgs false
set_option linter.unusedVariables false
namespace Go.Proofs.YtnjjnnfpnjjccaaGreatDoor.D
open Go Go.Det
variable {L : List (List Int)} {F : Nat -> Option Ent} {P : Nat -> List (Nat × Nat)}
theorem yg5 (R : FRep L (GT F P)) (K : TOk F) {i p : Nat} {its : List (List Int × Nat)} (h : F i = some (.dir p its)) (bv : Value) (H : AH) (Q : Value -> AH -> Prop) (hb : Byts H bv (dirB its))
  (hq : ∀ w H', OL ITS H.n H' w its -> HExt H H' -> Q (.tuple [w, .bool true].toArray) H') : Got (xc Tryz.prog tab 40 [bv] H) Q := by
 obtain ⟨k1, k2, k3, k4⟩ := K.its i p its h
 exact yk1 its bv H Q hb (fun q hq => (k4 q hq).1) k1 (by omega) hq
theorem yep : ITS.sz = 2 := rfl
set_option maxHeartbeats 16000000 in
theorem yoo (R : FRep L (GT F P)) (K : TOk F) (T S : Int) (v : Value) (H0 : AH) (hsv : Secs H0 v L) (d : Nat -> Nat) (hd : ∀ i p its, F i = some (.dir p its) -> ∀ q ∈ its, d q.2 = d i + 1 /\ d q.2 <= 8) :
  ∀ (n i p : Nat) (its : List (List Int × Nat)) (sn : List Bool) (u : Value) (H : AH) (Q : Value -> AH -> Prop), d i + n = 9 -> i < 32 -> F i = some (.dir p its) -> HExt H0 H -> OwnU H0.n H u sn -> sn.length = 32 -> (∀ j, Des F i j -> sn.getD j false = false) -> d i <= 8 ->
  (∀ H' sn', OwnU H0.n H' u sn' -> sn'.length = 32 -> (∀ j, j < 32 -> (sn'.getD j false = true ↔ sn.getD j false = true \/ Des F i j)) -> Stp u H u H' -> Q (.int .i64 0) H') ->
  Got (xc Tryz.prog tab 57 [.agg #[.int .i64 T, .int .i64 S, v], .int .i64 (i : Int), .int .i64 ((d i + 1 : Nat) : Int), u] H) Q := by
 intro n
 induction n with
 | zero =>
  intro i p its sn u H Q hn hi hF
  intro _ _ _ _ _ h9
  omega
 | succ n ih =>
  intro i p its sn u H Q hn hi hF x0 hu hl hun h9 hq
  obtain ⟨kS, kL, kN, kA⟩ := K.its i p its hF
  refine yac (res := [.tmp 8]) rfl ?_
  have vA : vcells (.agg #[.int .i64 T, .int .i64 S, v]) = [.int .i64 T, .int .i64 S, v] := rfl
  have b := Bx.new H [.int .i64 T, .int .i64 S, v]
  have x := yab H ⟨[.int .i64 T, .int .i64 S, v], 1, false, false⟩
  have hHn : (H.push ⟨[.int .i64 T, .int .i64 S, v], 1, false, false⟩).n = H.n + 1 := rfl
  generalize hTT : ((.seq (.ops (⟨some 15, _, _⟩ :: _) _) _) : XCode) = TT
  simp only [zZ, zY, ofArgs, qb_j, ev, if_true, if_false, reduceCtorEq, Nat.reduceEqDiff, Nat.reduceLT, Nat.zero_add, Nat.reduceAdd, vA]
  generalize H.push ⟨[.int .i64 T, .int .i64 S, v], 1, false, false⟩ = H1 at *
  have ldn := b.ldn 3 rfl
  have hun' : ∀ B, H.n <= B -> ¬ inB u B := fun B h1 h2 => by have := hu.1.lt h2; omega
  subst hTT
  generalize hTT : ((.seq (.seq (.ops (⟨some 21, _, _⟩ :: _) _) _) _) : XCode) = TT
  simp only [zZ, zY, q_U, q_Y, v_ld, ev, qb_p, qb_q, if_true, if_false, Nat.reduceEqDiff, Nat.reduceLT, ldn]
  refine ycZ R hi (ycl hF) T S v H1 _ (Secs.ext (x0.trans x) hsv) ?_
  intro w H2 ow x2
  refine yg5 R K hF w H2 _ ow.1 ?_
  intro wi H3 oi x3
  have x13 := x2.trans x3
  have lw := SL.len_ok oi.1
  have b3 := b.ext x13
  have hge : H1.n <= H2.n := x2.1
  subst hTT
  generalize hTT : ((.seq (.ops [⟨some 8, .mov (.const (.int .i64 0)), none⟩] [8]) .ret) : XCode) = TT
  simp only [zZ, zY, q_b, q_d, q_C, q_E, q_J, q_P, q_Q, zE, q_X, ev, if_true, if_false, Nat.reduceEqDiff, Nat.reduceLT, lw]
  have x03 := x0.trans (x.trans x13)
  have u3 : OwnU H0.n H3 u sn := Own.ext (x.trans x13) hu
  refine yaz (fun k fr H' => ∃ sk, OwnU H0.n H' u sk /\ sk.length = 32 /\ (∀ j, j < 32 -> (sk.getD j false = true ↔ sn.getD j false = true \/ ∃ q ∈ its.take k, q.2 = j \/ Des F q.2 j)) /\ Stp u H3 u H' /\ fr = [(1, .int .i64 (i : Int)), (2, .int .i64 ((d i + 1 : Nat) : Int)), (3, u), (4, .pointer (some ⟨H.n, 0, none⟩)), (23, wi), (24, .int .i64 (its.length : Int)), (25, .int .i64 (k : Int))]) its.length ⟨sn, u3, hl, fun j _ => by simp, ybh u (HExt.refl H3), rfl⟩ ?_ ?_
  ·rintro k hk fr H4 ⟨sk, u4, sl, hsk, st4, rfl⟩ J hJ
   obtain ⟨q, hqk⟩ : ∃ q, its[k]? = some q := ⟨_, List.getElem?_eq_getElem hk⟩
   have hqm := List.mem_of_getElem? hqk
   obtain ⟨q1, q2, q3, e, e1, e2⟩ := kA q hqm
   have hdq := hd i p its hF q hqm
   have hlt : (k : Int) < (its.length : Int) := by omega
   have w3 := wrS k (by omega)
   have oi4 : OL ITS H2.n H4 wi its := Own.same oi st4.n fun B hB => st4.get B (oi.1.lt hB) (hun' B (by have := Own.geB oi hB; have := x.1; omega))
   have a1 := SL.at oi4.1 .i64 (k : Int) k rfl hk
   have a2 := SL.ldk oi4.1 k q hqk
   have hitsf : ITS.f q = [.string (sB q.1), .int .i64 (q.2 : Int)] := rfl
   rw [yep] at a1 a2
   rw [hitsf] at a2
   have b4 := ykC st4 b3 (hun' _ (Nat.le_refl _))
   have x04 : HExt H0 H4 := Keep.trans (n0 := H0.n) x03 (st4.keep u3 x03.1)
   have hall : ([.string (sB q.1), .int .i64 (q.2 : Int)] : List Value).all one = true := rfl
   have st5 := (Bx.new H4 [.string (ByteArray.mk #[]), .int .i64 0]).stn 2 [.string (sB q.1), .int .i64 (q.2 : Int)] rfl rfl hall
   have c5 := Bx.mk H4 [.string (ByteArray.mk #[]), .int .i64 0] [.string (sB q.1), .int .i64 (q.2 : Int)]
   have x5 : HExt H4 ((H4.push ⟨[.string (ByteArray.mk #[]), .int .i64 0], 1, false, false⟩).set H4.n ⟨[.string (sB q.1), .int .i64 (q.2 : Int)], 1, false, false⟩) := yds _ _ _
   generalize hII : ((.ops [⟨some 80, .bin .add (.tmp 25) (.const (.int .i64 1)), none⟩, ⟨some 25, .mov (.tmp 80), none⟩] [1, 2, 3, 4, 23, 24, 25]) : XCode) = II
   unfold ydz
   rw [hII]
   generalize hT2 : ((.seq (.seq (.ops (⟨some 29, _, _⟩ :: _) _) _) _) : XCode) = T2
   simp only [zZ, zY, q_b, q_d, q_B, q_W, q_Z, v_ld, v_st, qb_i, ev, qb_v, xbin, ibin, if_true, if_false, Nat.reduceEqDiff, Nat.reduceLT, hlt, decide_true, a1, a2, st5]
   generalize (H4.push ⟨[.string (ByteArray.mk #[]), .int .i64 0], 1, false, false⟩).set H4.n ⟨[.string (sB q.1), .int .i64 (q.2 : Int)], 1, false, false⟩ = H5 at *
   have b5 := b4.ext x5
   have l5 := b5.ldn 3 rfl
   have n5 := c5.ld 1 _ rfl
   have u5 : OwnU H0.n H5 u sk := Own.ext x5 u4
   have x05 := x04.trans x5
   have cge : ¬ (q.2 : Int) >= 32 := by omega
   have hq16 := ycE L q.2 R.h8 (R.bnd q2)
   subst hT2
   generalize hT2 : ((.seq (.seq (.ops (⟨some 41, _, _⟩ :: _) _) _) _) : XCode) = T2
   simp only [zZ, zY, q_t, q_U, q_W, q_Z, v_ld, qb_h, qb_o, ev, qb_p, qb_q, xbin, ibin, if_true, if_false, Nat.reduceEqDiff, Nat.reduceLT, fldAk, n5, cge, decide_false, l5]
   refine ybS R q2 T S v H0 H5 x05 _ hsv ?_
   intro H6 s6 x6 y6
   have z6 : Byts H6 s6 (nod L q.2) := Sl.ext (x05.trans x6) y6
   obtain ⟨i6, d6⟩ := nbyte R q2 z6 0 (by omega)
   rw [tb0 R q2 e1] at d6
   have ck : ((e.kd : Int) == 0) = false := by rw [beq_eq_false_iff_ne]; rcases e.kd_le with h | h <;> omega
   have c6 := c5.ext x6
   have n6 := c6.ld 1 _ rfl
   have u6 : OwnU H0.n H6 u sk := Own.ext x6 u5
   have hnot : sk.getD q.2 false = false := by
    cases hb : sk.getD q.2 false with
    | false => rfl
    | true =>
     exfalso
     rcases (hsk q.2 q2).1 hb with h | ⟨q', hq', h⟩
     ·rw [hun q.2 (.one hF hqm)] at h; cases h
     ·have hm' := List.mem_of_mem_take hq'
      have hdq' := hd i p its hF q' hm'
      rcases h with h | h
      ·have hnd : (its.map (·.2)).Nodup := kN
       obtain ⟨j, hj⟩ := List.getElem?_of_mem hq'
       have hjk := (List.getElem?_eq_some_iff.1 hj).1
       rw [List.length_take] at hjk
       rw [List.getElem?_take, if_pos (by omega)] at hj
       have g1 : (its.map (·.2))[j]? = some q.2 := by rw [List.getElem?_map, hj]; simp [h]
       have g2 : (its.map (·.2))[k]? = some q.2 := by rw [List.getElem?_map, hqk]; rfl
       obtain ⟨j1, f1⟩ := List.getElem?_eq_some_iff.1 g1
       obtain ⟨j2, f2⟩ := List.getElem?_eq_some_iff.1 g2
       have := (List.getElem_inj hnd).1 (f1.trans f2.symm)
       omega
      ·have := h.d hd; omega
   have ju := yau u6.1 .i64 (q.2 : Int) q.2 rfl (by rw [sl]; exact q2)
   have du := yaV u6.1 q.2 (.bool false) (by rw [List.getElem?_map, <- hnot, List.getD_eq_getElem?_getD, List.getElem?_eq_getElem (by omega)]; rfl)
   subst hT2
   generalize hT2 : ((.seq (.seq (.ops (⟨some 46, _, _⟩ :: _) _) _) _) : XCode) = T2
   have i6' : pIdx 1 s6 (.int .i64 0) H6 = some (ptrAt s6 0, H6) := i6
   simp only [zZ, zY, q_d, q_C, q_Z, v_ld, qb_h, ev, if_true, if_false, Nat.reduceEqDiff, Nat.reduceLT, i6', d6, ck, fldAk, n6, ju, du]
   have b6 := b5.ext x6
   have l6 := b6.ldn 3 rfl
   subst hT2
   generalize hT2 : ((.seq (.ops (⟨some 59, _, _⟩ :: _) _) _) : XCode) = T2
   simp only [zZ, zY, q_U, q_W, q_Z, v_ld, qb_f, qb_h, ev, qb_p, qb_q, xbin, ibin, if_true, if_false, Nat.reduceEqDiff, Nat.reduceLT, l6, fldAk, n6]
   refine ybS R q2 T S v H0 H6 (x05.trans x6) _ hsv ?_
   intro H7 s7 x7 y7
   have x07 := (x05.trans x6).trans x7
   have z7 : Byts H7 s7 (nod L q.2) := Sl.ext x07 y7
   obtain ⟨i7, d7⟩ := nbyte R q2 z7 1 (by omega)
   rw [tb1 R q2 e1, e2] at d7
   have i7' : pIdx 1 s7 (.int .i64 1) H7 = some (ptrAt s7 1, H7) := i7
   have cv := fun H => ya5 .u8 (i : Int) (by omega) (by omega) H
   have cgt : ¬ ((d i + 1 : Nat) : Int) > 8 := by omega
   have c7 := c6.ext x7
   have n7 := c7.ld 1 _ rfl
   have u7 : OwnU H0.n H7 u sk := Own.ext x7 u6
   have ju7 := yau u7.1 .i64 (q.2 : Int) q.2 rfl (by rw [sl]; exact q2)
   subst hT2
   generalize hT2 : ((.seq (.ops (⟨some 63, _, _⟩ :: _) _) _) : XCode) = T2
   simp only [zZ, zY, q_d, q_t, q_C, q_W, q_Z, v_ld, v_st, qb_h, qb_o, ev, qb_v, xbin, ibin, if_true, if_false, Nat.reduceEqDiff, Nat.reduceLT, i7', d7, cv, bne_self_eq_false, cgt, decide_false, fldAk, n7, ju7]
   refine u7.flip (by rw [sl]; exact q2) ?_
   intro H8 u8 s8
   have b7 := b6.ext x7
   have b8 := ykC s8 b7 (hun' _ (Nat.le_refl _))
   have l8 := b8.ldn 3 rfl
   have hH4 : H.n <= H4.n := by have := x13.1; have := st4.n; omega
   have c8 := ykC s8 c7 (hun' _ hH4)
   have n8 := c8.ld 1 _ rfl
   have x08 : HExt H0 H8 := Keep.trans (n0 := H0.n) x07 (s8.keep u7 x07.1)
   have st8 : Stp u H3 u H8 := ycx st4 (ycx (ybh u ((x5.trans x6).trans x7)) s8)
   subst hT2
   generalize hT2 : ((.cond (.tmp 69) _ _) : XCode) = T2
   simp only [zZ, zY, q_U, q_W, q_Z, v_ld, qb_h, ev, qb_p, qb_q, xbin, ibin, if_true, if_false, Nat.reduceEqDiff, Nat.reduceLT, l8, fldAk, n8]
   refine ybS R q2 T S v H0 H8 x08 _ hsv ?_
   intro H9 s9 x9 y9
   have x09 := x08.trans x9
   have z9 : Byts H9 s9 (nod L q.2) := Sl.ext x09 y9
   obtain ⟨i9, d9⟩ := nbyte R q2 z9 0 (by omega)
   rw [tb0 R q2 e1] at d9
   have i9' : pIdx 1 s9 (.int .i64 0) H9 = some (ptrAt s9 0, H9) := i9
   have u9 : OwnU H0.n H9 u (sk.set q.2 true) := Own.ext x9 u8
   have b9 := b8.ext x9
   have l9 := b9.ldn 3 rfl
   have c9 := c8.ext x9
   have n9 := c9.ld 1 _ rfl
   have st9 : Stp u H3 u H9 := ycx st8 (ybh u x9)
   have sl' : (sk.set q.2 true).length = 32 := by rw [List.length_set, sl]
   have hset : ∀ j, j < 32 -> ((sk.set q.2 true).getD j false = true ↔ sk.getD j false = true \/ q.2 = j) := fun j hj => by
    rw [List.getD_eq_getElem?_getD, List.getElem?_set]
    by_cases e : q.2 = j
    ·subst e; simp [sl, q2]
    ·rw [if_neg e]; simp [e, List.getD_eq_getElem?_getD]
   cases e with
   | fil pp dt =>
    have k1 : (((Ent.fil pp dt).kd : Int) == 2) = false := rfl
    have kd1 : ((Ent.fil pp dt).kd : Int) = 1 := rfl
    rw [kd1] at d9
    have e12 : ((1 : Int) == 2) = false := rfl
    subst hT2 hII
    simp only [zZ, zY, q_d, q_j, q_C, q_W, ev, xbin, ibin, if_true, if_false, Nat.reduceEqDiff, Nat.reduceLT, i9', d9, e12, w3]
    refine hJ _ _ ⟨_, u9, sl', fun j hj => ?_, st9, rfl⟩
    rw [hset j hj, hsk j hj, yal _ _ _ hqk]
    have hnd : ¬ Des F q.2 j := fun h => by
     have : ∀ {j}, Des F q.2 j -> False := fun h => by
      induction h with
      | one h1 _ => rw [e1] at h1; cases h1
      | step _ _ _ ih => exact ih
     exact this h
    constructor
    ·rintro ((h | ⟨q', h1, h2⟩) | h)
     ·exact .inl h
     ·exact .inr ⟨q', List.mem_append_left _ h1, h2⟩
     ·exact .inr ⟨q, by simp, .inl h⟩
    ·rintro (h | ⟨q', h1, h2⟩)
     ·exact .inl (.inl h)
     ·rcases List.mem_append.1 h1 with h1 | h1
      ·exact .inl (.inr ⟨q', h1, h2⟩)
      ·rw [List.mem_singleton] at h1
       subst h1
       exact h2.elim .inr fun h => absurd h hnd
   | dir pp it2 =>
    have kd2 : ((Ent.dir pp it2).kd : Int) = 2 := rfl
    rw [kd2] at d9
    have e22 : ((2 : Int) == 2) = true := rfl
    have wd : IntKind.i64.wrap (((d i + 1 : Nat) : Int) + 1) = ((d q.2 + 1 : Nat) : Int) := by rw [wrI _ (by omega) (by omega)]; omega
    subst hT2
    simp only [zZ, zY, q_B, q_U, q_W, v_ld, qb_h, ev, qb_p, qb_q, xbin, ibin, if_true, if_false, Nat.reduceEqDiff, Nat.reduceLT, i9', d9, e22, l9, fldAk, n9, wd]
    refine ih q.2 pp it2 _ u H9 _ (by omega) q2 e1 x09 u9 sl' (fun j hj => ?_) (by omega) ?_
    ·have hj32 : j < 32 := by
      obtain ⟨_, p3, it3, q4, _, h1, h2, h3⟩ := hj.last
      obtain ⟨_, _, _, hA⟩ := K.its _ _ _ h1
      have := (hA q4 h2).2.1
      omega
     have hdj := hj.d hd
     cases hb : (sk.set q.2 true).getD j false with
     | false => rfl
     | true =>
      exfalso
      rcases (hset j hj32).1 hb with h | h
      ·rcases (hsk j hj32).1 h with h | ⟨q', hq', h⟩
       ·have hij : Des F i j := by
         have : ∀ {j}, Des F q.2 j -> Des F i j := fun h => by
          induction h with
          | one h1 h2 => exact .step (.one hF hqm) h1 h2
          | step _ h1 h2 ih => exact .step ih h1 h2
         exact this hj
        rw [hun j hij] at h; cases h
       ·have hm' := List.mem_of_mem_take hq'
        have hdq' := hd i p its hF q' hm'
        rcases h with h | h
        ·subst h; omega
        ·have heq := Des.uniq K hd h q.2 hj (by omega)
         obtain ⟨jj, hjj⟩ := List.getElem?_of_mem hq'
         have hjk := (List.getElem?_eq_some_iff.1 hjj).1
         rw [List.length_take] at hjk
         rw [List.getElem?_take, if_pos (by omega)] at hjj
         have g1 : (its.map (·.2))[jj]? = some q.2 := by rw [List.getElem?_map, hjj]; simp [heq]
         have g2 : (its.map (·.2))[k]? = some q.2 := by rw [List.getElem?_map, hqk]; rfl
         obtain ⟨j1, f1⟩ := List.getElem?_eq_some_iff.1 g1
         obtain ⟨j2, f2⟩ := List.getElem?_eq_some_iff.1 g2
         have := (List.getElem_inj kN).1 (f1.trans f2.symm)
         omega
      ·subst h; omega
    ·intro HA sn' uA slA hA stA
     have stA3 := ycx st9 stA
     subst hII
     simp only [zZ, zY, q_d, q_j, q_C, q_W, ev, xbin, ibin, if_true, if_false, Nat.reduceEqDiff, Nat.reduceLT, bne_self_eq_false, w3]
     refine hJ _ _ ⟨_, uA, slA, fun j hj => ?_, stA3, rfl⟩
     rw [hA j hj, hset j hj, hsk j hj, yal _ _ _ hqk]
     constructor
     ·rintro (((h | ⟨q', h1, h2⟩) | h) | h)
      ·exact .inl h
      ·exact .inr ⟨q', List.mem_append_left _ h1, h2⟩
      ·exact .inr ⟨q, by simp, .inl h⟩
      ·exact .inr ⟨q, by simp, .inr h⟩
     ·rintro (h | ⟨q', h1, h2⟩)
      ·exact .inl (.inl (.inl h))
      ·rcases List.mem_append.1 h1 with h1 | h1
       ·exact .inl (.inl (.inr ⟨q', h1, h2⟩))
       ·rw [List.mem_singleton] at h1
        subst h1
        exact h2.elim (fun h => .inl (.inr h)) .inr
  ·rintro fr H4 ⟨sk, u4, sl, hsk, st4, rfl⟩
   subst hTT
   simp only [zZ, zY, ydz, q_b, q_e, q_f, q_h, q_k, q_m, q_C, q_U, q_W, q_Z, v_ld, v_st, qb_f, qb_h, qb_i, ev, qb_p, qb_q, qb_v, xbin, ibin, qb_A, qb_B, qb_C, resV, qb_D, if_true, if_false, Nat.reduceEqDiff, Nat.reduceLT, Int.lt_irrefl, decide_false]
   refine hq H4 sk u4 sl (fun j hj => ?_) (ycx (ybh u (x.trans x13)) st4)
   rw [hsk j hj, List.take_length]
   refine or_congr Iff.rfl ⟨?_, fun h => ?_⟩
   ·rintro ⟨q, hq, h | h⟩
    ·exact h ▸ .one hF hq
    ·have : ∀ {j}, Des F q.2 j -> Des F i j := fun h => by
      induction h with
      | one h1 h2 => exact .step (.one hF hq) h1 h2
      | step _ h1 h2 ih => exact .step ih h1 h2
     exact this h
   ·induction h with
    | one h1 h2 => rw [hF] at h1; cases h1; exact ⟨_, h2, .inl rfl⟩
    | step h0 h1 h2 ih =>
     have hk32 := K.bd _ _ h1
     obtain ⟨q, hq, h⟩ := ih hk32
     refine ⟨q, hq, .inr ?_⟩
     rcases h with h | h
     ·subst h; exact .one h1 h2
     ·exact .step h h1 h2
end Go.Proofs.YtnjjnnfpnjjccaaGreatDoor.D
set_option linter.unusedSimpArgs false
set_option linter.unusedVariables false
namespace Go.Proofs.YtnjjnnfpnjjccaaGreatDoor.D
open Go Go.Det
variable {L : List (List Int)} {F : Nat -> Option Ent} {P : Nat -> List (Nat × Nat)}
structure TRep (L : List (List Int)) (F : Nat -> Option Ent) : Prop where
 ex : ∃ P, FRep L (GT F P)
 ok : TOk F
theorem TOk.all (K : TOk F) : ∀ j e, F j = some e -> j = 0 \/ Des F 0 j := by
 obtain ⟨d, _, hd⟩ := K.dep
 have : ∀ n j e, d j = n -> F j = some e -> j = 0 \/ Des F 0 j := by
  intro n
  induction n using Nat.strongRecOn with
  | ind n ih =>
   intro j e hn hj
   by_cases h0 : j = 0
   ·exact .inl h0
   ·obtain ⟨nm, p, its, h1, h2⟩ := K.up j e h0 hj
    have h3 := hd _ p its h1 _ h2
    have h4 : d j = d e.par + 1 := h3.1
    rcases ih (d e.par) (by omega) e.par _ rfl h1 with h | h
    ·rw [h] at h1
     exact .inr (.one h1 h2)
    ·exact .inr (.step h h1 h2)
 exact fun j e h => this _ j e rfl h
set_option maxHeartbeats 8000000 in
theorem ylP (R : TRep L F) (T S : Int) (v : Value) (H : AH) (Q : Value -> AH -> Prop) (hs : Secs H v L) (hT : 1 <= T) (hT2 : T <= 20) (hS : 1 <= S) (hS2 : S <= 12) (hLL : (L.length : Int) = T * S)
  (hq : ∀ H', HExt H H' -> Q (.int .i64 0) H') : Got (xc Tryz.prog tab 20 [.agg #[.int .i64 T, .int .i64 S, v]] H) Q := by
 obtain ⟨⟨P, R⟩, K⟩ := R
 refine yac (res := [.tmp 2]) rfl ?_
 have vA : vcells (.agg #[.int .i64 T, .int .i64 S, v]) = [.int .i64 T, .int .i64 S, v] := rfl
 have b := Bx.new H [.int .i64 T, .int .i64 S, v]
 have x := yab H ⟨[.int .i64 T, .int .i64 S, v], 1, false, false⟩
 generalize hTT : ((.seq (.seq (.ops (⟨some 7, _, _⟩ :: _) _) _) _) : XCode) = TT
 simp only [zZ, zY, ofArgs, qb_j, ev, if_true, if_false, reduceCtorEq, Nat.reduceEqDiff, Nat.reduceLT, vA]
 generalize H.push ⟨[.int .i64 T, .int .i64 S, v], 1, false, false⟩ = H1 at *
 have ldn := b.ldn 3 rfl
 subst hTT
 generalize hTT : ((.seq (.ops (⟨some 12, _, _⟩ :: _) _) _) : XCode) = TT
 simp only [zZ, zY, q_U, q_W, v_ld, ev, qb_p, qb_q, xbin, ibin, if_true, if_false, Nat.reduceEqDiff, Nat.reduceLT, ldn]
 refine ynG R T S v H1 _ (Secs.ext x hs) hT hT2 hS hS2 hLL ?_
 intro H2 x2
 have x12 := x.trans x2
 have hsB := Secs.ext x12 hs
 have b2 := b.ext x2
 have hmk := ydQ (.bool false) 32 (by omega) .i64 H2 32 rfl
 have x3 := yab H2 ⟨rep 32 [.bool false], 1, false, false⟩
 subst hTT
 generalize hTT : ((.seq (.ops (⟨some 13, _, _⟩ :: _) _) _) : XCode) = TT
 simp only [zZ, zY, q_d, q_C, qb_k, ev, if_true, if_false, Nat.reduceEqDiff, Nat.reduceLT, bne_self_eq_false, hmk]
 have u3 : OwnU H2.n (H2.push ⟨rep 32 [.bool false], 1, false, false⟩) (.slice (some ⟨H2.n, 0, none⟩) 32 32) (List.replicate 32 false) := by
  have := Own.pushed H2 (rep 32 [.bool false]) 1 32 false (by rw [yaB]; rfl)
  unfold OwnU
  rw [List.length_replicate]
  rw [yel] at this ⊢
  exact this
 generalize H2.push ⟨rep 32 [.bool false], 1, false, false⟩ = H3 at *
 generalize Value.slice (some ⟨H2.n, 0, none⟩) 32 32 = u at *
 have i0 := yau u3.1 .i64 0 0 rfl (by simp)
 subst hTT
 generalize hTT : ((.seq (.seq (.ops (⟨some 15, _, _⟩ :: _) _) _) _) : XCode) = TT
 simp only [zZ, zY, q_Z, v_st, ev, qb_v, if_true, if_false, Nat.reduceEqDiff, Nat.reduceLT, i0]
 refine u3.flip (by simp) ?_
 intro H4 u4 s4
 have x24 : HExt H2 H4 := Keep.trans (n0 := H2.n) x3 (s4.keep u3 x3.1)
 have b4 := b2.ext x24
 have ld4 := b4.ldn 3 rfl
 obtain ⟨d, d0, hd⟩ := K.dep
 obtain ⟨its, hr⟩ := K.root
 have hz : ∀ j, ((List.replicate 32 false).set 0 true).getD j false = true ↔ j = 0 := fun j => by
  rw [List.getD_eq_getElem?_getD, List.getElem?_set]
  by_cases e : 0 = j
  ·subst e; simp
  ·rw [if_neg e, List.getElem?_replicate]
   constructor
   ·intro h
    split at h <;> simp at h
   ·intro h; exact absurd h.symm e
 subst hTT
 generalize hTT : ((.seq (.seq (.ops (⟨some 21, _, _⟩ :: []) _) _) _) : XCode) = TT
 simp only [zZ, zY, q_U, q_W, v_ld, ev, qb_p, qb_q, xbin, ibin, if_true, if_false, Nat.reduceEqDiff, Nat.reduceLT, ld4]
 have c1 : (1 : Int) = ((d 0 + 1 : Nat) : Int) := by rw [d0]; rfl
 rw [c1]
 refine yoo R K T S v H2 hsB d hd 9 0 0 its _ u H4 _ (by omega) (by omega) hr x24 u4 (by simp) (fun j hj => ?_) (by omega) ?_
 ·have := hj.d hd
  cases hb : ((List.replicate 32 false).set 0 true).getD j false with
  | false => rfl
  | true =>
   rw [(hz j).1 hb] at this; omega
 intro H5 sn u5 sl hsn s5
 have x25 : HExt H2 H5 := Keep.trans (n0 := H2.n) x24 (s5.keep u4 x24.1)
 subst hTT
 simp only [zZ, zY, q_b, q_d, q_f, q_m, q_C, ev, qb_A, qb_B, qb_C, if_true, if_false, Nat.reduceEqDiff, Nat.reduceLT, bne_self_eq_false]
 refine yaz (fun k fr H' => HExt H2 H' /\ OwnU H2.n H' u sn /\ fr = [(1, .pointer (some ⟨H.n, 0, none⟩)), (4, u), (21, .int .i64 (k : Int))]) 32 ⟨x25, u5, rfl⟩ ?_ ?_
 ·rintro k hk fr H6 ⟨x6, u6, rfl⟩ J hJ
  have hlt : (k : Int) < 32 := by omega
  have w3 := wrS k (by omega)
  have iu := yau u6.1 .i64 (k : Int) k rfl (by omega)
  have du := yaV u6.1 k (.bool (sn.getD k false)) (by rw [List.getElem?_map, List.getD_eq_getElem?_getD, List.getElem?_eq_getElem (by omega)]; rfl)
  have b6 := b2.ext x6
  have l6 := b6.ldn 3 rfl
  cases hb : sn.getD k false with
  | true =>
   rw [hb] at du
   simp only [zZ, zY, ycm, q_b, q_d, q_j, q_s, q_B, q_C, q_E, q_J, zE, q_W, q_Z, v_ld, qb_o, ev, xbin, ibin, if_true, if_false, Nat.reduceEqDiff, Nat.reduceLT, hlt, decide_true, iu, du, w3]
   exact hJ _ _ ⟨x6, u6, rfl⟩
  | false =>
   rw [hb] at du
   have hnone : F k = none := by
    cases hF : F k with
    | none => rfl
    | some e =>
     exfalso
     have : sn.getD k false = true := (hsn k hk).2 (by
      rcases K.all k e hF with h | h
      ·exact .inl ((hz k).2 h)
      ·exact .inr h)
     rw [hb] at this; cases this
   simp only [zZ, zY, ycm, q_b, q_d, q_r, q_B, q_E, q_J, zD, q_U, q_W, q_Z, v_ld, qb_o, ev, qb_p, qb_q, xbin, ibin, if_true, if_false, Nat.reduceEqDiff, Nat.reduceLT, hlt, decide_true, iu, du, l6]
   refine ybS R hk T S v H2 H6 x6 _ hsB ?_
   intro H7 s7 x7 y7
   have x27 := x6.trans x7
   obtain ⟨i7, d7⟩ := nbyte R hk (Sl.ext x27 y7) 0 (by omega)
   rw [tb0n R hk hnone] at d7
   have i7' : pIdx 1 s7 (.int .i64 0) H7 = some (ptrAt s7 0, H7) := i7
   simp only [zZ, zY, q_d, q_j, q_C, ev, if_true, if_false, Nat.reduceEqDiff, Nat.reduceLT, i7', d7, bne_self_eq_false, w3]
   exact hJ _ _ ⟨x27, Own.ext x7 u6, rfl⟩
 ·rintro fr H6 ⟨x6, u6, rfl⟩
  have c32 : ¬ ((32 : Nat) : Int) < 32 := by omega
  simp only [zZ, zY, ycm, q_b, q_e, q_h, q_k, q_C, q_J, q_W, q_Z, v_ld, ev, xbin, ibin, resV, qb_D, if_true, if_false, Nat.reduceEqDiff, Nat.reduceLT, c32, decide_false]
  exact hq H6 (x12.trans x6)
end Go.Proofs.YtnjjnnfpnjjccaaGreatDoor.D
set_option linter.unusedSimpArgs false
set_option linter.unusedVariables false
namespace Go.Proofs.YtnjjnnfpnjjccaaGreatDoor.D
open Go Go.Det
def joinP : List (List Int) -> List Int
 | [] => []
 | [s] => s
 | s :: t :: r => s ++ 47 :: joinP (t :: r)
structure GM (H : AH) : Prop where
 n : 0 < H.n
 g : ∃ blk m, H.get 0 = some blk /\ blk.cells = [.int .i64 m]
theorem GM.ext {H H' : AH} (h : GM H) (x : HExt H H') : GM H' := by
 obtain ⟨blk, m, h1, h2⟩ := h.g
 exact ⟨Nat.lt_of_lt_of_le h.n x.1, blk, m, (x.2 0 h.n).trans h1, h2⟩
theorem u8m (l : List Int) : (sB l).data.toList = l.map fun n => UInt8.ofNat n.toNat := yd9 l
theorem u47 (x : Int) (h : 0 <= x /\ x < 256) : (UInt8.ofNat x.toNat == UInt8.ofNat 47) = decide (x = 47) := by
 by_cases e : x = 47
 ·subst e; rfl
 ·rw [decide_eq_false e, beq_eq_false_iff_ne]
  intro h2
  have h3 := congrArg UInt8.toNat h2
  have a := yjU h
  have : ((UInt8.ofNat 47).toNat : Int) = 47 := rfl
  omega
theorem ymp : ∀ (s : List Int), Oct s -> 47 ∉ s -> Lib.indexByte (s.map fun n => UInt8.ofNat n.toNat) (UInt8.ofNat 47) = -1
 | [], _, _ => rfl
 | x :: s, h, hn => by
  have ih := ymp s (fun b hb => h b (by simp [hb])) (fun hm => hn (by simp [hm]))
  have hx : (UInt8.ofNat x.toNat == UInt8.ofNat 47) = false := by rw [u47 x (h x (by simp))]; exact decide_eq_false fun e => hn (by simp [e])
  rw [List.map_cons, Lib.indexByte, hx, ih]; rfl
theorem yog : ∀ (s r : List Int), Oct s -> 47 ∉ s -> Lib.indexByte ((s ++ 47 :: r).map fun n => UInt8.ofNat n.toNat) (UInt8.ofNat 47) = (s.length : Int)
 | [], r, _, _ => rfl
 | x :: s, r, h, hn => by
  have ih := yog s r (fun b hb => h b (by simp [hb])) (fun hm => hn (by simp [hm]))
  have hx : (UInt8.ofNat x.toNat == UInt8.ofNat 47) = false := by rw [u47 x (h x (by simp))]; exact decide_eq_false fun e => hn (by simp [e])
  have hne : ((s.length : Int) == -1) = false := by rw [beq_eq_false_iff_ne]; omega
  rw [List.cons_append, List.map_cons, Lib.indexByte, hx, ih, hne]
  simp
def slash : ByteArray := ByteArray.mk #[47]
theorem iB_eq (s : List Int) : Lib.indexB (sB s) slash = Lib.indexByte (s.map fun n => UInt8.ofNat n.toNat) (UInt8.ofNat 47) := by
 show Lib.index (sB s).data.toList slash.data.toList = _
 rw [u8m]
 exact Lib.index_one _ _
theorem you (s : List Int) (h : Oct s) (hn : 47 ∉ s) : Lib.indexB (sB s) slash = -1 := (iB_eq s).trans (ymp s h hn)
theorem ypC (s r : List Int) (h : Oct s) (hn : 47 ∉ s) : Lib.indexB (sB (s ++ 47 :: r)) slash = (s.length : Int) := (iB_eq _).trans (yog s r h hn)
theorem yld (s r : List Int) : (sB (s ++ 47 :: r)).extract (s.length + slash.size) (sB (s ++ 47 :: r)).size = sB r := by
 have hz : slash.size = 1 := rfl
 rw [hz, yej, ycD, List.take_length]
 congr 1
 rw [show s ++ 47 :: r = (s ++ [47]) ++ r by simp, List.drop_left' (by simp)]
theorem ynX (s r : List Int) : (sB (s ++ 47 :: r)).extract 0 (s.length + 0) = sB s := by
 rw [yej, Nat.add_zero, List.drop_zero, List.take_left' rfl]
def NoSl (ns : List (List Int)) : Prop := ∀ s ∈ ns, B8 s /\ 47 ∉ s
theorem yhS : ∀ (ns : List (List Int)), ns ≠ [] -> NoSl ns -> Lib.splitB slash 0 (Lib.countB (sB (joinP ns)) slash) (sB (joinP ns)) = ns.map sB
 | [], h, _ => absurd rfl h
 | [s], _, h => by
  obtain ⟨h1, h2⟩ := h s (by simp)
  have e := you s h1 h2
  rw [joinP, Lib.splitB_miss _ _ _ _ e]; rfl
 | s :: t :: r, _, h => by
  obtain ⟨h1, h2⟩ := h s (by simp)
  have ih := yhS (t :: r) (by simp) fun x hx => h x (by simp [List.mem_cons.1 hx])
  have e := ypC s (joinP (t :: r)) h1 h2
  have hz : 1 <= slash.size := by decide
  rw [joinP, Lib.countB_hit _ _ _ hz e, yld, Nat.add_comm 1, Lib.splitB_hit _ _ _ _ _ e, yld, ynX, ih]; rfl
theorem yf0 : ∀ (ns : List (List Int)), NoSl ns -> B8 (joinP ns)
 | [], _ => yfG
 | [s], h => (h s (by simp)).1
 | s :: t :: r, h => fun b hb => by
  have ih := yf0 (t :: r) fun x hx => h x (by simp [List.mem_cons.1 hx])
  rw [joinP] at hb
  rcases List.mem_append.1 hb with hb | hb
  ·exact (h s (by simp)).1 b hb
  ·rcases List.mem_cons.1 hb with rfl | hb
   ·omega
   ·exact ih b hb
theorem ygD {ns : List (List Int)} (h0 : ns ≠ []) (hn : NoSl ns) (hl : (joinP ns).length < 1000000) {H : AH} (hg : GM H) :
  xc Tryz.prog tab 55 [.string (sB (joinP ns)), .string (ByteArray.mk #[47])] H = some (.slice (some ⟨H.n, 0, none⟩) ns.length ns.length, H.push ⟨ns.map fun s => .string (sB s), 1, false, false⟩) := by
 have hT : tab 55 = some (.prim gSplit) := rfl
 unfold xc ya3
 rw [hT]
 show gSplit _ H = _
 obtain ⟨blk, m, hb, hc⟩ := hg.g
 have hs : splits (sB (joinP ns)) (ByteArray.mk #[47]) = ns.map fun s => .string (sB s) := by
  unfold splits
  have := yhS ns h0 hn
  rw [show (ByteArray.mk #[47] : ByteArray) = slash from rfl, this, List.map_map]; rfl
 unfold gSplit
 simp only [hb, hc, hs, List.length_map]
 have h1 : Nat.blt (sB (joinP ns)).size 1000000 = true := by rw [ycD]; exact yjP hl
 have h2 : Nat.ble 1 (ByteArray.mk #[47] : ByteArray).size = true := rfl
 rw [h1, h2]; rfl
def STR : LS (List Int) := ⟨1, fun s => [.string (sB s)], fun _ => rfl, by decide⟩
theorem ycT (l : List (List Int)) : STR.cells l = l.map fun s => .string (sB s) := by
 induction l with
 | nil => rfl
 | cons s l ih =>
  have : STR.cells (s :: l) = .string (sB s) :: STR.cells l := rfl
  rw [this, ih]; rfl
theorem yiK (ns : List (List Int)) (hn : NoSl ns) (he : ∀ s ∈ ns, s ≠ []) (hl : (joinP ns).length < 1000000) (H : AH) (Q : Value -> AH -> Prop) (hg : GM H)
  (hq : ∀ w H', OL STR H.n H' w ns -> HExt H H' -> Q w H') : Got (xc Tryz.prog tab 74 [.string (sB (joinP ns))] H) Q := by
 refine yac (res := [.tmp 2]) rfl ?_
 have nq := sbe (yf0 ns hn) yfG
 cases ns with
 | nil =>
  have d : decide (joinP ([] : List (List Int)) = []) = true := rfl
  rw [d] at nq
  simp only [zZ, zY, ofArgs, q_f, q_i, q_m, q_B, q_U, q_W, ev, qb_p, qb_q, xbin, ibin, qb_A, qb_B, qb_C, resV, qb_D, if_true, if_false, reduceCtorEq, Nat.reduceEqDiff, Nat.reduceLT, sbNil, nq]
  exact hq _ H (OL.nil _ _ _) (HExt.refl H)
 | cons s r =>
  have hne : joinP (s :: r) ≠ [] := by
   have := he s (by simp)
   cases r with
   | nil => exact this
   | cons t r => rw [joinP]; simp
  rw [decide_eq_false hne] at nq
  have row := ygD (by simp) hn hl hg
  simp only [zZ, zY, ofArgs, q_d, q_f, q_m, q_C, q_U, q_W, ev, qb_p, qb_q, xbin, ibin, qb_A, qb_B, qb_C, resV, qb_D, if_true, if_false, reduceCtorEq, Nat.reduceEqDiff, Nat.reduceLT, sbNil, nq, row]
  refine hq _ _ ?_ (yab H _)
  have := Own.pushed H ((s :: r).map fun s => Value.string (sB s)) 1 (s :: r).length false (by simp)
  unfold OL
  rw [ycT]
  exact this
end Go.Proofs.YtnjjnnfpnjjccaaGreatDoor.D
