/- What runs of the program's functions compute, on a heap of the run's own, and that the machine does what such a run says: the conditions stand in each theorem. -/
import Derived.Test.YtnjjnnfpnjjccaaGreatDoorCbM7
set_option linter.unusedSimpArgs false
set_option linter.unusedVariables false
namespace Go.Proofs.YtnjjnnfpnjjccaaGreatDoor.D
open Go Go.Det
variable {F : Nat -> Option Ent} {P : Nat -> List (Nat × Nat)}
def dropF (F : Nat -> Option Ent) (at' p i : Nat) (its : List (List Int × Nat)) : Nat -> Option Ent := updF (updF F i none) at' (some (.dir p its))
theorem TOk.drop (K : TOk F) {at' p i : Nat} {l1 l2 : List (List Int × Nat)} {nm : List Int} {e : Ent} (hF : F at' = some (.dir p (l1 ++ (nm, i) :: l2))) (hFi : F i = some e) (he : ∀ q l, e = .dir q l -> l = []) (hs : Srt (l1 ++ l2)) : TOk (dropF F at' p i (l1 ++ l2)) /\ at' ≠ i /\ i ≠ 0 := by
 obtain ⟨d, d0, hd⟩ := K.dep
 obtain ⟨its0, hr⟩ := K.root
 obtain ⟨kS, kL, kN, kA⟩ := K.its at' p _ hF
 have hmi : (nm, i) ∈ l1 ++ (nm, i) :: l2 := by simp
 have hsub : ∀ q, q ∈ l1 ++ l2 -> q ∈ l1 ++ (nm, i) :: l2 := fun q h => by
  rcases List.mem_append.1 h with h | h
  ·simp [h]
  ·simp [h]
 obtain ⟨_, hi32, hi0, _⟩ := kA _ hmi
 have hdi := (hd at' p _ hF _ hmi).1
 have hne : at' ≠ i := fun h => by
  have h2 : d i = d at' + 1 := hdi
  rw [h] at h2; omega
 have hnd : (l1.map (·.2) ++ i :: l2.map (·.2)).Nodup := by
  have : (l1 ++ (nm, i) :: l2).map (·.2) = l1.map (·.2) ++ i :: l2.map (·.2) := by simp
  rw [<- this]; exact kN
 have hnd2 : ((l1 ++ l2).map (·.2)).Nodup := by
  rw [List.map_append]
  exact hnd.sublist (List.Sublist.append (List.Sublist.refl _) (List.sublist_cons_self _ _))
 have hqi : ∀ q ∈ l1 ++ l2, q.2 ≠ i := fun q hq h => by
  obtain ⟨n1, n2, n3⟩ := List.nodup_append.1 hnd
  rcases List.mem_append.1 hq with h1 | h1
  ·exact n3 q.2 (List.mem_map_of_mem h1) i (by simp) h
  ·have := (List.nodup_cons.1 n2).1
   exact this (h ▸ List.mem_map_of_mem h1)
 have fa : dropF F at' p i (l1 ++ l2) at' = some (.dir p (l1 ++ l2)) := ycS _ _ _
 have fi : dropF F at' p i (l1 ++ l2) i = none := by unfold dropF; rw [ybO _ _ (fun h => hne h.symm), ycS]
 have fo : ∀ j, j ≠ at' -> j ≠ i -> dropF F at' p i (l1 ++ l2) j = F j := fun j h1 h2 => by unfold dropF; rw [ybO _ _ h1, ybO _ _ h2]
 have qs : ∀ q ∈ l1 ++ l2, q.2 ≠ at' := fun q hq h => by have := (hd at' p _ hF q (hsub q hq)).1; rw [h] at this; omega
 have hd' : ∀ j p' its', dropF F at' p i (l1 ++ l2) j = some (.dir p' its') -> j ≠ at' -> F j = some (.dir p' its') /\ j ≠ i := fun j p' its' h hj => by
  by_cases h2 : j = i
  ·rw [h2, fi] at h; cases h
  ·rw [fo j hj h2] at h; exact ⟨h, h2⟩
 refine ⟨⟨?_, fun j p' its' h => ?_, fun j e' hj h => ?_, fun j e' h => ?_, d, d0, fun j p' its' h q hq => ?_⟩, hne, hi0⟩
 ·by_cases h0 : 0 = at'
  ·subst h0
   rw [hr] at hF
   cases hF
   exact ⟨_, fa⟩
  ·exact ⟨its0, by rw [fo 0 h0 (fun h => hi0 h.symm), hr]⟩
 ·by_cases hj : j = at'
  ·subst hj
   rw [fa] at h
   cases h
   have hlen : (l1 ++ (nm, i) :: l2).length <= 31 := kL
   rw [List.length_append, List.length_cons] at hlen
   refine ⟨hs, by rw [List.length_append]; omega, hnd2, fun q hq => ?_⟩
   obtain ⟨a1, a2, a3, x, a4, a5⟩ := kA q (hsub q hq)
   exact ⟨a1, a2, a3, x, by rw [fo _ (qs q hq) (hqi q hq)]; exact a4, a5⟩
  ·obtain ⟨h2, h3⟩ := hd' j p' its' h hj
   obtain ⟨a1, a2, a3, a4⟩ := K.its j p' its' h2
   refine ⟨a1, a2, a3, fun q hq => ?_⟩
   obtain ⟨b1, b2, b3, x, b4, b5⟩ := a4 q hq
   refine ⟨b1, b2, b3, ?_⟩
   have hqi' : q.2 ≠ i := fun h4 => hj (K.par1 h2 hq hF hmi h4)
   by_cases h3 : q.2 = at'
   ·rw [h3, hF] at b4
    cases b4
    exact ⟨.dir p (l1 ++ l2), by rw [h3]; exact fa, b5⟩
   ·exact ⟨x, by rw [fo _ h3 hqi']; exact b4, b5⟩
 ·have hji : j ≠ i := fun h2 => by rw [h2, fi] at h; cases h
  have key : ∀ e', F j = some e' -> ∃ nm' p' its', dropF F at' p i (l1 ++ l2) e'.par = some (.dir p' its') /\ (nm', j) ∈ its' := fun e' h => by
   obtain ⟨nm', p', its', g1, g2⟩ := K.up j e' hj h
   have hkn : e'.par ≠ i := fun h3 => by
    rw [h3, hFi] at g1
    have := he p' its' (Option.some.inj g1)
    rw [this] at g2; simp at g2
   by_cases hk : e'.par = at'
   ·rw [hk, hF] at g1
    cases g1
    refine ⟨nm', p, _, by rw [hk]; exact fa, ?_⟩
    rcases List.mem_append.1 g2 with h4 | h4
    ·simp [h4]
    ·rcases List.mem_cons.1 h4 with h5 | h5
     ·exact absurd (congrArg Prod.snd h5) hji
     ·simp [h5]
   ·exact ⟨nm', p', its', by rw [fo _ hk hkn]; exact g1, g2⟩
  by_cases h2 : j = at'
  ·subst h2
   rw [fa] at h
   cases h
   have := key _ hF
   exact this
  ·rw [fo j h2 hji] at h
   exact key _ h
 ·by_cases h2 : j = at'
  ·rw [h2]; exact K.bd _ _ hF
  ·by_cases h1 : j = i
   ·rw [h1]; exact hi32
   ·rw [fo j h2 h1] at h
    exact K.bd _ _ h
 ·by_cases hj : j = at'
  ·subst hj
   rw [fa] at h
   cases h
   exact hd _ _ _ hF q (hsub q hq)
  ·exact hd _ _ _ (hd' j p' its' h hj).1 q hq
end Go.Proofs.YtnjjnnfpnjjccaaGreatDoor.D
set_option linter.unusedSimpArgs false
set_option linter.unusedVariables false
namespace Go.Proofs.YtnjjnnfpnjjccaaGreatDoor.D
open Go Go.Det
def aN : List Int := [97]
def bN : List Int := [98]
def cN : List Int := [99]
def pthN : Nat -> List (List Int)
 | 0 => []
 | 1 => [aN]
 | 2 => [aN, bN]
 | _ => [cN]
def preN : Nat -> List Int
 | 0 => []
 | 1 => [97, 47]
 | 2 => [97, 47, 98, 47]
 | _ => [99, 47]
def u8L (l : List Int) : List UInt8 := l.map fun n => UInt8.ofNat n.toNat
def lessN (a b : List Int) : Bool := Op.bytesLess (u8L a) (u8L b)
theorem yiQ (a b : List Int) : Op.bytesLess (sB a).toList (sB b).toList = lessN a b := by rw [yhU, yhU]; rfl
def newN : List Int := [110, 101, 119]
theorem less_all : ((List.range 6).all fun k => [aN, bN, cN].all fun a => lessN a (nmF k)) = true /\ ((List.range 6).all fun k => (List.range 6).all fun i => !(decide (i < k)) || lessN (nmF i) (nmF k)) = true /\ ((List.range 6).all fun k => lessN (nmF k) newN) = true /\ ([aN, bN, cN].all fun a => lessN a newN) = true /\ lessN aN cN = true := by
 refine ⟨by kernel_rfl, by kernel_rfl, by kernel_rfl, by kernel_rfl, by kernel_rfl⟩
theorem ymm {i k : Nat} (hk : k < 6) (hi : i < k) : lessN (nmF i) (nmF k) = true := by
 have := List.all_eq_true.1 (List.all_eq_true.1 less_all.2.1 k (List.mem_range.2 hk)) i (List.mem_range.2 (by omega))
 simpa [hi] using this
theorem yne {l : List (List Int × Nat)} {x : List Int × Nat} (h : Srt l) (hx : ∀ p ∈ l, lessN p.1 x.1 = true) : Srt (l ++ [x]) := by
 intro k p q hp hq
 rcases Nat.lt_trichotomy (k + 1) l.length with hk | hk | hk
 ·rw [List.getElem?_append_left (by omega)] at hp
  rw [List.getElem?_append_left hk] at hq
  exact h k p q hp hq
 ·rw [List.getElem?_append_left (by omega)] at hp
  rw [List.getElem?_append_right (by omega), hk, Nat.sub_self] at hq
  cases hq
  rw [yiQ]
  exact hx p (List.mem_of_getElem? hp)
 ·rw [List.getElem?_append_right (by omega)] at hq
  have := (List.getElem?_eq_some_iff.1 hq).1
  simp at this
  omega
theorem ylQ {f g : Nat -> Nat} : ∀ {n : Nat}, (∀ j, j < n -> f j <= g j) -> sumR f n <= sumR g n
 | 0, _ => Nat.le_refl _
 | n + 1, h => by
  have h1 := ylQ (n := n) fun j hj => h j (by omega)
  have h2 := h n (by omega)
  rw [sumR, sumR]; omega
theorem ymi (n : Nat) (h : n <= 8) : need (32 * n) <= 2 := by unfold need; omega
theorem ykj (its : List (List Int × Nat)) (h : ∀ q ∈ its, ItOk q) (p : Nat) : needE (some (.dir p its)) = need (32 * its.length) := by
 show need (dirB its).length = _
 rw [ydV its h]
theorem yp7 (k : Nat) (hk : k < 5) (n : Nat) (hn : n < 256) : ItOk (nmF k, n) := ⟨(yfA k hk).1, (yfA k hk).2, hn⟩
theorem ab_it : ItOk (aN, 1) /\ ItOk (bN, 2) /\ ItOk (cN, 3) := by
 refine ⟨⟨by decide, fun b hb => ?_, by decide⟩, ⟨by decide, fun b hb => ?_, by decide⟩, ⟨by decide, fun b hb => ?_, by decide⟩⟩
 ·rw [List.mem_singleton.1 hb]; omega
 ·rw [List.mem_singleton.1 hb]; omega
 ·rw [List.mem_singleton.1 hb]; omega
theorem ypP (r : Nat) : OkNs (pthN r) /\ (pthN r).length <= 2 := by
 have h : ∀ s ∈ [aN, bN, cN], okName s = true /\ B8 s := fun s hs => by
  simp only [List.mem_cons, List.not_mem_nil, or_false] at hs
  rcases hs with rfl | rfl | rfl
  ·exact ⟨ab_it.1.nm, ab_it.1.n8⟩
  ·exact ⟨ab_it.2.1.nm, ab_it.2.1.n8⟩
  ·exact ⟨ab_it.2.2.nm, ab_it.2.2.n8⟩
 rcases r with _ | _ | _ | r
 ·exact ⟨fun s hs => by simp [pthN] at hs, by simp [pthN]⟩
 ·exact ⟨fun s hs => h s (by simp [pthN] at hs; simp [hs]), by simp [pthN]⟩
 ·exact ⟨fun s hs => h s (by simp [pthN] at hs; rcases hs with rfl | rfl <;> simp), by simp [pthN]⟩
 ·exact ⟨fun s hs => h s (by simp [pthN] at hs; simp [hs]), by simp [pthN]⟩
theorem yk0 (r : Nat) (nm : List Int) : joinP (pthN r ++ [nm]) = preN r ++ nm := by
 rcases r with _ | _ | _ | r <;> rfl
def lsR (j : Nat) : List (Nat × List Int) -> Nat -> List Int -> List (List Int × List Int)
 | [], _, _ => []
 | x :: l, r, path => if x.1 = r then (path ++ nmF j, x.2) :: lsR (j + 1) l r path else lsR (j + 1) l r path
def lsAll (fs : List (Nat × List Int)) : List (List Int × List Int) := lsR 0 fs 2 [97, 47, 98, 47] ++ lsR 0 fs 1 [97, 47] ++ lsR 0 fs 3 [99, 47] ++ lsR 0 fs 0 []
def Up {α : Type} (key : α -> Nat) (l : List α) : Prop := l.Pairwise fun a b => key a <= key b
def ltK {α : Type} (key : α -> Nat) (a b : α) : Bool := decide (key a < key b)
theorem yj0 {α : Type} (key : α -> Nat) : ∀ (j : Nat) (l : List α), j < l.length -> Up key (l.take j) -> ∃ s, siftP (ltK key) l j = s ++ l.drop (j + 1) /\ s.Perm (l.take (j + 1)) /\ Up key s
 | 0, l, hj, _ => by
  refine ⟨l.take 1, by rw [siftP, Nat.zero_add, List.take_append_drop], List.Perm.refl _, ?_⟩
  obtain ⟨a, ha⟩ : ∃ a, l[0]? = some a := ⟨_, List.getElem?_eq_getElem hj⟩
  have : l.take (0 + 1) = l.take 0 ++ [a] := yal _ _ _ ha
  rw [Nat.zero_add] at this
  rw [this]
  exact List.pairwise_singleton _ _
 | j + 1, l, hj, hu => by
  obtain ⟨a, ha⟩ : ∃ a, l[j]? = some a := ⟨_, List.getElem?_eq_getElem (by omega)⟩
  obtain ⟨b, hb⟩ : ∃ b, l[j + 1]? = some b := ⟨_, List.getElem?_eq_getElem hj⟩
  have ta : l.take (j + 1) = l.take j ++ [a] := yal _ _ _ ha
  have tb : l.take (j + 1 + 1) = l.take (j + 1) ++ [b] := yal _ _ _ hb
  have hua := hu
  rw [ta] at hua
  obtain ⟨u1, _, u3⟩ := List.pairwise_append.1 hua
  have hle : ∀ x ∈ l.take j, key x <= key a := fun x hx => u3 x hx a (by simp)
  have e : siftP (ltK key) l (j + 1) = if ltK key b a then siftP (ltK key) ((l.set (j + 1) a).set j b) j else l := by rw [siftP, ha, hb]
  by_cases h : ltK key b a = true
  ·rw [if_pos h] at e
   have hlt : key b < key a := by unfold ltK at h; exact of_decide_eq_true h
   generalize hl2 : (l.set (j + 1) a).set j b = l2 at *
   have len2 : l2.length = l.length := by rw [<- hl2]; simp
   have g : ∀ i, i < j -> l2[i]? = l[i]? := fun i hi => by rw [<- hl2, List.getElem?_set, if_neg (by omega), List.getElem?_set, if_neg (by omega)]
   have gj : l2[j]? = some b := by rw [<- hl2, List.getElem?_set, if_pos rfl, if_pos (by simp; omega)]
   have gj1 : l2[j + 1]? = some a := by rw [<- hl2, List.getElem?_set, if_neg (by omega), List.getElem?_set, if_pos rfl, if_pos hj]
   have gh : ∀ i, j + 2 <= i -> l2[i]? = l[i]? := fun i hi => by rw [<- hl2, List.getElem?_set, if_neg (by omega), List.getElem?_set, if_neg (by omega)]
   have t2 : l2.take j = l.take j := by
    refine List.ext_getElem? fun i => ?_
    rw [List.getElem?_take, List.getElem?_take]
    split
    ·rename_i hi; exact g i hi
    ·rfl
   have d2 : l2.drop (j + 1) = a :: l.drop (j + 1 + 1) := by
    obtain ⟨q1, q2⟩ := List.getElem?_eq_some_iff.1 gj1
    rw [List.drop_eq_getElem_cons q1, q2]
    congr 1
    refine List.ext_getElem? fun i => ?_
    rw [List.getElem?_drop, List.getElem?_drop]
    exact gh _ (by omega)
   obtain ⟨s, s1, s2, s3⟩ := yj0 key j l2 (by omega) (by rw [t2]; exact u1)
   have tb2 : l2.take (j + 1) = l.take j ++ [b] := by rw [yal _ _ _ gj, t2]
   rw [tb2] at s2
   refine ⟨s ++ [a], by rw [e, s1, d2, List.append_assoc]; rfl, ?_, ?_⟩
   ·rw [tb, ta]
    have p1 : (s ++ [a]).Perm ((l.take j ++ [b]) ++ [a]) := s2.append_right _
    refine p1.trans ?_
    rw [List.append_assoc, List.append_assoc]
    exact List.Perm.append_left _ (List.Perm.swap _ _ _)
   ·unfold Up
    refine List.pairwise_append.2 ⟨s3, List.pairwise_singleton _ _, fun x hx y hy => ?_⟩
    rw [List.mem_singleton.1 hy]
    have hx2 := s2.mem_iff.1 hx
    rcases List.mem_append.1 hx2 with h1 | h1
    ·exact hle x h1
    ·rw [List.mem_singleton.1 h1]; omega
  ·rw [if_neg h] at e
   have hge : key a <= key b := by
    unfold ltK at h
    rcases Nat.lt_or_ge (key b) (key a) with h2 | h2
    ·exact absurd (decide_eq_true h2) h
    ·exact h2
   refine ⟨l.take (j + 1 + 1), by rw [e, List.take_append_drop], List.Perm.refl _, ?_⟩
   rw [tb]
   unfold Up
   refine List.pairwise_append.2 ⟨hu, List.pairwise_singleton _ _, fun x hx y hy => ?_⟩
   rw [List.mem_singleton.1 hy]
   rw [ta] at hx
   rcases List.mem_append.1 hx with h1 | h1
   ·have := hle x h1; omega
   ·rw [List.mem_singleton.1 h1]; exact hge
theorem yk2 {α : Type} (key : α -> Nat) (l : List α) : ∀ i, i < l.length -> ∃ s, isortP (ltK key) l i = s ++ l.drop (i + 1) /\ s.Perm (l.take (i + 1)) /\ Up key s
 | 0, hi => by
  obtain ⟨s, s1, s2, s3⟩ := yj0 key 0 l hi (by rw [List.take_zero]; exact List.Pairwise.nil)
  exact ⟨s, s1, s2, s3⟩
 | i + 1, hi => by
  obtain ⟨s, s1, s2, s3⟩ := yk2 key l i (by omega)
  have hsl : s.length = i + 1 := by rw [s2.length_eq, List.length_take]; omega
  have hlen : (s ++ l.drop (i + 1)).length = l.length := by rw [List.length_append, List.length_drop, hsl]; omega
  obtain ⟨s', t1, t2, t3⟩ := yj0 key (i + 1) (s ++ l.drop (i + 1)) (by rw [hlen]; exact hi) (by rw [<- hsl, List.take_left' rfl]; exact s3)
  obtain ⟨b, hb⟩ : ∃ b, l[i + 1]? = some b := ⟨_, List.getElem?_eq_getElem hi⟩
  have hd : l.drop (i + 1) = b :: l.drop (i + 1 + 1) := by
   obtain ⟨q1, q2⟩ := List.getElem?_eq_some_iff.1 hb
   rw [List.drop_eq_getElem_cons q1, q2]
  have d3 : (s ++ l.drop (i + 1)).drop (i + 1 + 1) = l.drop (i + 1 + 1) := by
   rw [hd, show s ++ b :: l.drop (i + 1 + 1) = (s ++ [b]) ++ l.drop (i + 1 + 1) by simp, List.drop_left' (by simp [hsl])]
  have d4 : (s ++ l.drop (i + 1)).take (i + 1 + 1) = s ++ [b] := by
   rw [hd, show s ++ b :: l.drop (i + 1 + 1) = (s ++ [b]) ++ l.drop (i + 1 + 1) by simp, List.take_left' (by simp [hsl])]
  rw [d3] at t1
  rw [d4] at t2
  refine ⟨s', by rw [isortP, s1, t1], ?_, t3⟩
  rw [yal _ _ _ hb]
  exact t2.trans (s2.append_right _)
theorem yjB {α : Type} (key : α -> Nat) (l : List α) : Up key (isortP (ltK key) l (l.length - 1)) := by
 rcases Nat.eq_zero_or_pos l.length with h | h
 ·have : l = [] := List.eq_nil_of_length_eq_zero h
  subst this
  exact List.Pairwise.nil
 ·obtain ⟨s, s1, _, s3⟩ := yk2 key l (l.length - 1) (by omega)
  rw [s1, List.drop_eq_nil_of_le (by omega), List.append_nil]
  exact s3
def rkN : Nat -> Nat
 | 0 => 3
 | 1 => 1
 | 2 => 0
 | _ => 2
def allRK : List (List Int × Nat) := (List.range 4).flatMap fun r => (List.range 6).map fun k => (preN r ++ nmF k, 8 * rkN r + k)
def keyN (nm : List Int) : Nat := ((allRK.find? fun p => p.1 == nm).map (·.2)).getD 0
theorem yo4 : ((List.range 4).all fun r => (List.range 6).all fun k => keyN (preN r ++ nmF k) == 8 * rkN r + k) = true := by kernel_rfl
theorem yjA {r k : Nat} (hr : r < 4) (hk : k < 6) : keyN (preN r ++ nmF k) = 8 * rkN r + k := by
 have := List.all_eq_true.1 (List.all_eq_true.1 yo4 r (List.mem_range.2 hr)) k (List.mem_range.2 hk)
 simpa using this
def cmpS (a b : List Int) : Int := if lessN a b then -1 else if a = b then 0 else 1
def cmpLs : List (List Int) -> List (List Int) -> Int
 | [], [] => 0
 | [], _ :: _ => -1
 | _ :: _, [] => 1
 | a :: x, b :: y => if cmpS a b = 0 then cmpLs x y else cmpS a b
theorem ypn : ((List.range 4).all fun r => (List.range 6).all fun k => (List.range 4).all fun r' => (List.range 6).all fun k' => decide (cmpLs (pthN r ++ [nmF k]) (pthN r' ++ [nmF k']) < 0) == decide (8 * rkN r + k < 8 * rkN r' + k')) = true := by kernel_rfl
theorem yqj {r k r' k' : Nat} (hr : r < 4) (hk : k < 6) (hr' : r' < 4) (hk' : k' < 6) : cmpLs (pthN r ++ [nmF k]) (pthN r' ++ [nmF k']) < 0 ↔ 8 * rkN r + k < 8 * rkN r' + k' := by
 have h1 := List.all_eq_true.1 (List.all_eq_true.1 ypn r (List.mem_range.2 hr)) k (List.mem_range.2 hk)
 have h2 := List.all_eq_true.1 (List.all_eq_true.1 h1 r' (List.mem_range.2 hr')) k' (List.mem_range.2 hk')
 have h3 := beq_iff_eq.1 h2
 exact decide_eq_decide.1 h3
def told0 (j : Nat) : List (Nat × List Int) -> List (List Int × List Int)
 | [] => []
 | x :: l => (preN x.1 ++ nmF j, x.2) :: told0 (j + 1) l
theorem ykb : ∀ (l : List (Nat × List Int)) (j r : Nat) (path : List Int) (e : List Int × List Int), e ∈ lsR j l r path -> ∃ i x, l[i]? = some x /\ x.1 = r /\ e = (path ++ nmF (j + i), x.2)
 | [], j, r, path, e, h => by simp [lsR] at h
 | x :: l, j, r, path, e, h => by
  rw [lsR] at h
  have tl : e ∈ lsR (j + 1) l r path -> ∃ i y, (x :: l)[i]? = some y /\ y.1 = r /\ e = (path ++ nmF (j + i), y.2) := fun h => by
   obtain ⟨i, y, h1, h2, h3⟩ := ykb l (j + 1) r path e h
   exact ⟨i + 1, y, h1, h2, by rw [h3, show j + 1 + i = j + (i + 1) by omega]⟩
  by_cases hx : x.1 = r
  ·rw [if_pos hx] at h
   rcases List.mem_cons.1 h with rfl | h
   ·exact ⟨0, x, rfl, hx, rfl⟩
   ·exact tl h
  ·rw [if_neg hx] at h
   exact tl h
theorem yjy {r : Nat} (hr : r < 4) : ∀ (l : List (Nat × List Int)) (j : Nat), j + l.length <= 6 -> (lsR j l r (preN r)).Pairwise fun a b => keyN a.1 < keyN b.1
 | [], j, _ => List.Pairwise.nil
 | x :: l, j, h => by
  rw [List.length_cons] at h
  have ih := yjy hr l (j + 1) (by omega)
  rw [lsR]
  by_cases hx : x.1 = r
  ·rw [if_pos hx]
   refine List.pairwise_cons.2 ⟨fun e he => ?_, ih⟩
   obtain ⟨i, y, h1, _, rfl⟩ := ykb l (j + 1) r _ e he
   have hi := (List.getElem?_eq_some_iff.1 h1).1
   show keyN (preN r ++ nmF j) < keyN (preN r ++ nmF (j + 1 + i))
   rw [yjA hr (by omega), yjA hr (by omega)]; omega
  ·rw [if_neg hx]; exact ih
theorem ykW {r : Nat} (hr : r < 4) {l : List (Nat × List Int)} (hl : l.length <= 6) {e : List Int × List Int} (h : e ∈ lsR 0 l r (preN r)) : 8 * rkN r <= keyN e.1 /\ keyN e.1 < 8 * rkN r + 8 := by
 obtain ⟨i, y, h1, _, rfl⟩ := ykb l 0 r _ e h
 have hi := (List.getElem?_eq_some_iff.1 h1).1
 show 8 * rkN r <= keyN (preN r ++ nmF (0 + i)) /\ keyN (preN r ++ nmF (0 + i)) < 8 * rkN r + 8
 rw [yjA hr (by omega)]; omega
theorem ykX (fs : List (Nat × List Int)) (hl : fs.length <= 6) : (lsAll fs).Pairwise fun a b => keyN a.1 < keyN b.1 := by
 have l0 := yjy (r := 0) (by omega) fs 0 (by omega)
 have l1 := yjy (r := 1) (by omega) fs 0 (by omega)
 have l2 := yjy (r := 2) (by omega) fs 0 (by omega)
 have l3 := yjy (r := 3) (by omega) fs 0 (by omega)
 have k0 := fun e h => ykW (r := 0) (by omega) hl (e := e) h
 have k1 := fun e h => ykW (r := 1) (by omega) hl (e := e) h
 have k2 := fun e h => ykW (r := 2) (by omega) hl (e := e) h
 have k3 := fun e h => ykW (r := 3) (by omega) hl (e := e) h
 have r0 : rkN 0 = 3 := rfl
 have r1 : rkN 1 = 1 := rfl
 have r2 : rkN 2 = 0 := rfl
 have r3 : rkN 3 = 2 := rfl
 rw [r0] at k0
 rw [r1] at k1
 rw [r2] at k2
 rw [r3] at k3
 show (lsR 0 fs 2 (preN 2) ++ lsR 0 fs 1 (preN 1) ++ lsR 0 fs 3 (preN 3) ++ lsR 0 fs 0 (preN 0)).Pairwise _
 refine List.pairwise_append.2 ⟨List.pairwise_append.2 ⟨List.pairwise_append.2 ⟨l2, l1, fun a ha b hb => ?_⟩, l3, fun a ha b hb => ?_⟩, l0, fun a ha b hb => ?_⟩
 ·have := k2 a ha; have := k1 b hb; omega
 ·have := k3 b hb
  rcases List.mem_append.1 ha with h | h
  ·have := k2 a h; omega
  ·have := k1 a h; omega
 ·have := k0 b hb
  rcases List.mem_append.1 ha with h | h
  ·rcases List.mem_append.1 h with h | h
   ·have := k2 a h; omega
   ·have := k1 a h; omega
  ·have := k3 a h; omega
theorem yml : ∀ (l : List (Nat × List Int)) (j : Nat), (∀ x ∈ l, x.1 < 4) -> (lsR j l 2 (preN 2) ++ lsR j l 1 (preN 1) ++ lsR j l 3 (preN 3) ++ lsR j l 0 (preN 0)).Perm (told0 j l)
 | [], j, _ => List.Perm.refl _
 | x :: l, j, h => by
  have ih := yml l (j + 1) fun y hy => h y (by simp [hy])
  have hx := h x (by simp)
  rw [told0]
  refine List.Perm.trans ?_ (ih.cons _)
  rw [lsR, lsR, lsR, lsR]
  obtain ⟨r, d⟩ := x
  have hx' : r < 4 := hx
  show ((if r = 2 then (preN 2 ++ nmF j, d) :: lsR (j + 1) l 2 (preN 2) else lsR (j + 1) l 2 (preN 2)) ++ (if r = 1 then (preN 1 ++ nmF j, d) :: lsR (j + 1) l 1 (preN 1) else lsR (j + 1) l 1 (preN 1)) ++ (if r = 3 then (preN 3 ++ nmF j, d) :: lsR (j + 1) l 3 (preN 3) else lsR (j + 1) l 3 (preN 3)) ++ (if r = 0 then (preN 0 ++ nmF j, d) :: lsR (j + 1) l 0 (preN 0) else lsR (j + 1) l 0 (preN 0))).Perm ((preN r ++ nmF j, d) :: _)
  have h4 : r = 0 \/ r = 1 \/ r = 2 \/ r = 3 := by omega
  rcases h4 with rfl | rfl | rfl | rfl
  ·rw [if_neg (by decide), if_neg (by decide), if_neg (by decide), if_pos rfl]
   exact List.perm_middle
  ·rw [if_neg (by decide), if_pos rfl, if_neg (by decide), if_neg (by decide)]
   exact (List.perm_middle.append_right _).append_right _
  ·rw [if_pos rfl, if_neg (by decide), if_neg (by decide), if_neg (by decide)]
   exact List.Perm.refl _
  ·rw [if_neg (by decide), if_neg (by decide), if_pos rfl, if_neg (by decide)]
   exact List.perm_middle.append_right _
theorem ylX (fs : List (Nat × List Int)) (hl : fs.length <= 6) (hr : ∀ x ∈ fs, x.1 < 4) (l : List FE) (ht : l.map FE.told = told0 0 fs) : (isortP (ltK fun p : FE => keyN p.nm) l (l.length - 1)).map FE.told = lsAll fs := by
 have p1 : ((isortP (ltK fun p : FE => keyN p.nm) l (l.length - 1)).map FE.told).Perm (told0 0 fs) := by
  rw [<- ht]
  exact (ybD _ l _).map _
 have p2 : (lsAll fs).Perm (told0 0 fs) := yml fs 0 hr
 have u1 : ((isortP (ltK fun p : FE => keyN p.nm) l (l.length - 1)).map FE.told).Pairwise fun a b => keyN a.1 <= keyN b.1 := by
  rw [List.pairwise_map]
  exact yjB (fun p : FE => keyN p.nm) l
 have u2 : (lsAll fs).Pairwise fun a b => keyN a.1 <= keyN b.1 := (ykX fs hl).imp fun h => Nat.le_of_lt h
 refine List.Perm.eq_of_pairwise (le := fun a b => keyN a.1 <= keyN b.1) (fun a b ha hb h1 h2 => ?_) u1 u2 (p1.trans p2.symm)
 have ha' := p2.mem_iff.2 (p1.mem_iff.1 ha)
 obtain ⟨i, hi⟩ := List.getElem?_of_mem ha'
 obtain ⟨k, hk⟩ := List.getElem?_of_mem hb
 have hu := ykX fs hl
 rw [List.pairwise_iff_getElem] at hu
 obtain ⟨i1, i2⟩ := List.getElem?_eq_some_iff.1 hi
 obtain ⟨k1, k2⟩ := List.getElem?_eq_some_iff.1 hk
 rcases Nat.lt_trichotomy i k with h | h | h
 ·have := hu i k i1 k1 h
  rw [i2, k2] at this; omega
 ·subst h
  rw [<- i2, <- k2]
 ·have := hu k i k1 i1 h
  rw [i2, k2] at this; omega
theorem yof (a : List Int) (h : B8 a) (H : AH) : xc Tryz.prog tab 123 [.string (sB a)] H = some (.bool false, H) := by
 refine ycd (yac (res := [.tmp 2]) rfl ?_)
 have e := sbn h h
 have d : decide (a = a) = true := decide_eq_true rfl
 rw [d] at e
 simp only [zZ, zY, ofArgs, q_f, q_m, zE, q_W, ev, xbin, ibin, qb_A, qb_B, qb_C, resV, qb_D, if_true, if_false, reduceCtorEq, Nat.reduceEqDiff, Nat.reduceLT, true_and, e]
theorem ypo (a b : List Int) (ha : B8 a) (hb : B8 b) (H : AH) : xc Tryz.prog tab 89 [.string (sB a), .string (sB b)] H = some (.int .i64 (cmpS a b), H) := by
 refine ycd (yac (res := [.tmp 4]) rfl ?_)
 have n1 := yof a ha H
 have n2 := yof b hb H
 have l1 : sbin .lss (sB a) (sB b) = some (.bool (lessN a b)) := by
  show some (Value.bool (Op.bytesLess (sB a).toList (sB b).toList)) = _
  rw [yiQ]
 have l2 : sbin .gtr (sB a) (sB b) = some (.bool (!(lessN a b || decide (a = b)))) := by
  show some (Value.bool (!(Op.bytesLess (sB a).toList (sB b).toList || (sB a).toList == (sB b).toList))) = _
  rw [yiQ, yhU, yhU, yjT ha hb]
 unfold cmpS
 cases h1 : lessN a b with
 | true =>
  rw [h1] at l1
  simp only [zZ, zY, ofArgs, q_d, q_f, q_i, q_m, q_B, q_C, q_U, q_W, ev, qb_p, qb_q, xbin, ibin, qb_A, qb_B, qb_C, resV, qb_D, if_true, if_false, reduceCtorEq, Nat.reduceEqDiff, Nat.reduceLT, Nat.zero_add, and_true, n1, n2, l1]
 | false =>
  rw [h1] at l1 l2
  by_cases h2 : a = b
  ·rw [decide_eq_true h2] at l2
   rw [if_pos h2]
   simp only [zZ, zY, ofArgs, q_d, q_f, q_m, q_C, zE, q_U, q_W, ev, qb_p, qb_q, xbin, ibin, qb_A, qb_B, qb_C, resV, qb_D, if_true, if_false, reduceCtorEq, Nat.reduceEqDiff, Nat.reduceLT, Nat.zero_add, and_true, n1, n2, l1, l2, Bool.or_true]
  ·rw [decide_eq_false h2] at l2
   rw [if_neg h2]
   simp only [zZ, zY, ofArgs, q_d, q_f, q_i, q_m, q_B, q_C, zD, q_U, q_W, ev, qb_p, qb_q, xbin, ibin, qb_A, qb_B, qb_C, resV, qb_D, if_true, if_false, reduceCtorEq, Nat.reduceEqDiff, Nat.reduceLT, Nat.zero_add, and_true, n1, n2, l1, l2, Bool.or_false]
theorem ymT (b : List (List Int)) : cmpLs [] b = if b.length = 0 then 0 else -1 := by
 cases b with
 | nil => rfl
 | cons y b => rfl
theorem ylx (x : List Int) (a b : List (List Int)) : cmpLs (x :: a) b = match b with | [] => 1 | y :: b => if cmpS x y = 0 then cmpLs a b else cmpS x y := by
 cases b <;> rfl
set_option maxHeartbeats 4000000 in
theorem ynY (a b : List (List Int)) (ha8 : ∀ s ∈ a, B8 s) (hb8 : ∀ s ∈ b, B8 s) (hla : a.length <= 1000) (hlb : b.length <= 1000) (va vb' : Value) (H : AH) (ha : SL STR H va a) (hb : SL STR H vb' b) : xc Tryz.prog tab 54 [va, vb'] H = some (.int .i64 (cmpLs a b), H) := by
 refine ycd (yac (res := [.tmp 4]) rfl ?_)
 have la := SL.len_ok ha
 have lb := SL.len_ok hb
 simp only [zZ, zY, ofArgs, q_b, q_f, q_m, q_W, q_X, ev, xbin, ibin, qb_A, qb_B, qb_C, if_true, if_false, reduceCtorEq, Nat.reduceEqDiff, Nat.reduceLT, Nat.zero_add, la]
 refine ybo (fun k fr H' => H' = H /\ k <= b.length /\ cmpLs a b = cmpLs (a.drop k) (b.drop k) /\ fr = [(0, va), (1, vb'), (9, va), (10, .int .i64 (a.length : Int)), (11, .int .i64 (k : Int))]) (fun e fr H' => e = .ret /\ H' = H /\ fr = [(4, .int .i64 (cmpLs a b))]) a.length ⟨rfl, Nat.zero_le _, rfl, rfl⟩ ?_ ?_ (fun _ _ h => by cases h.1) ?_
 ·rintro k hk fr H1 ⟨rfl, hkb, hc, rfl⟩ J hJ hR
  obtain ⟨x, hx⟩ : ∃ x, a[k]? = some x := ⟨_, List.getElem?_eq_getElem hk⟩
  have dx : a.drop k = x :: a.drop (k + 1) := by
   obtain ⟨h1, h2⟩ := List.getElem?_eq_some_iff.1 hx
   rw [List.drop_eq_getElem_cons h1, h2]
  have hlt : (k : Int) < (a.length : Int) := by omega
  have w3 := wrS k (by omega)
  have a1 : pIdx 1 va (.int .i64 (k : Int)) H1 = some (ptrAt va k, H1) := yau ha .i64 (k : Int) k rfl hk
  have a2 : pLd none (ptrAt va k) H1 = some (.string (sB x), H1) := yaV ha k _ (by rw [ycT, List.getElem?_map, hx]; rfl)
  rw [dx, ylx] at hc
  by_cases hkl : k < b.length
  ·obtain ⟨y, hy⟩ : ∃ y, b[k]? = some y := ⟨_, List.getElem?_eq_getElem hkl⟩
   have dy : b.drop k = y :: b.drop (k + 1) := by
    obtain ⟨h1, h2⟩ := List.getElem?_eq_some_iff.1 hy
    rw [List.drop_eq_getElem_cons h1, h2]
   rw [dy] at hc
   have hc' : cmpLs a b = if cmpS x y = 0 then cmpLs (a.drop (k + 1)) (b.drop (k + 1)) else cmpS x y := hc
   have cge : ¬ ((k : Int) >= (b.length : Int)) := by omega
   have b1 : pIdx 1 vb' (.int .i64 (k : Int)) H1 = some (ptrAt vb' k, H1) := yau hb .i64 (k : Int) k rfl hkl
   have b2 : pLd none (ptrAt vb' k) H1 = some (.string (sB y), H1) := yaV hb k _ (by rw [ycT, List.getElem?_map, hy]; rfl)
   have cs := ypo x y (ha8 x (List.mem_of_getElem? hx)) (hb8 y (List.mem_of_getElem? hy)) H1
   by_cases h0 : cmpS x y = 0
   ·rw [if_pos h0] at hc'
    have cz : (cmpS x y != 0) = false := by simp [h0]
    simp only [zZ, zY, yak, q_b, q_d, q_j, q_B, q_C, q_U, q_W, q_X, q_Z, v_ld, ev, qb_p, qb_q, xbin, ibin, if_true, if_false, reduceCtorEq, Nat.reduceEqDiff, Nat.reduceLT, hlt, decide_true, a1, a2, lb, cge, decide_false, b1, b2, cs, cz, w3]
    exact hJ _ _ ⟨rfl, hkl, hc', rfl⟩
   ·rw [if_neg h0] at hc'
    have cz : (cmpS x y != 0) = true := by simp [h0]
    simp only [zZ, zY, yak, q_b, q_d, q_f, q_i, q_l, q_B, q_C, q_U, q_W, q_X, q_Z, v_ld, ev, qb_p, qb_q, xbin, ibin, if_true, if_false, reduceCtorEq, Nat.reduceEqDiff, Nat.reduceLT, hlt, decide_true, a1, a2, lb, cge, decide_false, b1, b2, cs, cz]
    rw [<- hc']
    exact hR _ _ _ ⟨rfl, rfl, rfl⟩
  ·have dy : b.drop k = [] := List.drop_eq_nil_of_le (by omega)
   rw [dy] at hc
   have hc' : cmpLs a b = 1 := hc
   have cge : ((k : Int) >= (b.length : Int)) := by omega
   simp only [zZ, zY, yak, q_b, q_d, q_f, q_i, q_l, q_B, q_U, q_W, q_X, q_Z, v_ld, ev, qb_p, qb_q, xbin, ibin, if_true, if_false, reduceCtorEq, Nat.reduceEqDiff, Nat.reduceLT, hlt, decide_true, a1, a2, lb, cge]
   rw [<- hc']
   exact hR _ _ _ ⟨rfl, rfl, rfl⟩
 ·rintro e fr H1 _ ⟨rfl, rfl, rfl⟩
  simp only [q_i, q_l, q_m, qb_r, zB, zC, qb_A, qb_B, qb_C, resV, qb_D, if_true, and_true]
 ·rintro fr H1 ⟨rfl, hkb, hc, rfl⟩
  rw [List.drop_length, ymT, List.length_drop] at hc
  by_cases h : a.length < b.length
  ·have c1 : (a.length : Int) < (b.length : Int) := by omega
   rw [if_neg (by omega)] at hc
   simp only [zZ, zY, yak, q_b, q_e, q_f, q_h, q_i, q_k, q_m, q_B, q_C, q_U, q_W, q_X, q_Z, v_ld, ev, qb_p, qb_q, xbin, ibin, qb_A, qb_B, qb_C, resV, qb_D, if_true, if_false, reduceCtorEq, Nat.reduceEqDiff, Nat.reduceLT, and_true, Int.lt_irrefl, decide_false, la, lb, c1, decide_true]
   rw [hc]
  ·have c1 : ¬ (a.length : Int) < (b.length : Int) := by omega
   rw [if_pos (by omega)] at hc
   simp only [zZ, zY, yak, q_b, q_d, q_e, q_h, q_k, q_C, q_U, q_W, q_X, q_Z, v_ld, ev, qb_p, qb_q, xbin, ibin, resV, qb_D, if_true, if_false, reduceCtorEq, Nat.reduceEqDiff, Nat.reduceLT, and_true, Int.lt_irrefl, decide_false, la, lb, c1]
   rw [hc]
structure LawF (p : FE) : Prop where
 ex : ∃ r k, r < 4 /\ k < 5 /\ p.nm = preN r ++ nmF k
theorem yl6 {r k : Nat} (hk : k < 5) : OkNs (pthN r ++ [nmF k]) /\ pthN r ++ [nmF k] ≠ [] /\ (joinP (pthN r ++ [nmF k])).length < 1000000 /\ (pthN r ++ [nmF k]).length <= 8 := by
 obtain ⟨h1, h2⟩ := ypP r
 have h3 : OkNs (pthN r ++ [nmF k]) := fun s hs => by
  rcases List.mem_append.1 hs with h | h
  ·exact h1 s h
  ·rw [List.mem_singleton.1 h]; exact yfA k hk
 have h4 : (pthN r ++ [nmF k]).length <= 8 := by simp; omega
 refine ⟨h3, by simp, ?_, h4⟩
 have := yeb _ h3
 omega
set_option maxHeartbeats 8000000 in
theorem ylm (p q : FE) (hp : LawF p) (hq' : LawF q) (hpw : one p.w = true) (hqw : one q.w = true) (H : AH) (Q : Value -> AH -> Prop) (hg : GM H) (hq : ∀ H' c, HExt H H' -> (c < 0 ↔ ltK (fun p : FE => keyN p.nm) p q = true) -> Q (.int .i64 c) H') :
  Got (pCallV (xc Tryz.prog tab) (.func (.func 53) #[] #[]) [.agg #[.string (sB p.nm), p.w], .agg #[.string (sB q.nm), q.w]] H) Q := by
 obtain ⟨r1, k1, hr1, hk1, e1⟩ := hp.ex
 obtain ⟨r2, k2, hr2, hk2, e2⟩ := hq'.ex
 obtain ⟨p1, p2, p3, p4⟩ := yl6 (r := r1) hk1
 obtain ⟨q1, q2, q3, q4⟩ := yl6 (r := r2) hk2
 rw [yeu]
 refine yac (res := [.tmp 4]) rfl ?_
 have vA : vcells (.agg #[.string (sB p.nm), p.w]) = [.string (sB p.nm), p.w] := rfl
 have vB : vcells (.agg #[.string (sB q.nm), q.w]) = [.string (sB q.nm), q.w] := rfl
 have b1 := Bx.new H [.string (sB p.nm), p.w]
 have x1 := yab H ⟨[.string (sB p.nm), p.w], 1, false, false⟩
 have n1 : (H.push ⟨[.string (sB p.nm), p.w], 1, false, false⟩).n = H.n + 1 := rfl
 have b2 := Bx.new (H.push ⟨[.string (sB p.nm), p.w], 1, false, false⟩) [.string (sB q.nm), q.w]
 have x2 := yab (H.push ⟨[.string (sB p.nm), p.w], 1, false, false⟩) ⟨[.string (sB q.nm), q.w], 1, false, false⟩
 rw [n1] at b2
 generalize hTT : ((.seq (.dops (.mk ⟨some 5, _, _⟩ _ _ _ :: _) _) _) : XCode) = TT
 simp only [zZ, zY, ofArgs, qb_j, ev, if_true, if_false, reduceCtorEq, Nat.reduceEqDiff, Nat.reduceLT, Nat.zero_add, vA, vB, n1]
 have b1' := b1.ext x2
 have x12 := x1.trans x2
 generalize (H.push ⟨[.string (sB p.nm), p.w], 1, false, false⟩).push ⟨[.string (sB q.nm), q.w], 1, false, false⟩ = H2 at *
 have l1 := b1'.ld 0 _ rfl
 have l2 := b2.ld 0 _ rfl
 have row1 := ygD p2 p1.nosl p3 (hg.ext x12)
 rw [yk0, <- e1] at row1
 have x3 := yab H2 ⟨(pthN r1 ++ [nmF k1]).map fun s => .string (sB s), 1, false, false⟩
 have l3 := (b2.ext x3).ld 0 _ rfl
 have row2 := ygD q2 q1.nosl q3 ((hg.ext x12).ext x3)
 rw [yk0, <- e2] at row2
 have o1 : SL STR (H2.push ⟨(pthN r1 ++ [nmF k1]).map fun s => .string (sB s), 1, false, false⟩) (.slice (some ⟨H2.n, 0, none⟩) (pthN r1 ++ [nmF k1]).length (pthN r1 ++ [nmF k1]).length) (pthN r1 ++ [nmF k1]) := by
  have := Sl.pushed H2 ((pthN r1 ++ [nmF k1]).map fun s => Value.string (sB s)) 1 (pthN r1 ++ [nmF k1]).length false false (by simp)
  unfold SL
  rw [ycT]; exact this
 generalize H2.push ⟨(pthN r1 ++ [nmF k1]).map fun s => .string (sB s), 1, false, false⟩ = H3 at *
 have x4 := yab H3 ⟨(pthN r2 ++ [nmF k2]).map fun s => .string (sB s), 1, false, false⟩
 have o2 : SL STR (H3.push ⟨(pthN r2 ++ [nmF k2]).map fun s => .string (sB s), 1, false, false⟩) (.slice (some ⟨H3.n, 0, none⟩) (pthN r2 ++ [nmF k2]).length (pthN r2 ++ [nmF k2]).length) (pthN r2 ++ [nmF k2]) := by
  have := Sl.pushed H3 ((pthN r2 ++ [nmF k2]).map fun s => Value.string (sB s)) 1 (pthN r2 ++ [nmF k2]).length false false (by simp)
  unfold SL
  rw [ycT]; exact this
 have cm := ynY _ _ (fun s hs => (p1 s hs).2) (fun s hs => (q1 s hs).2) (by omega) (by omega) _ _ _ (o1.ext x4) o2
 subst hTT
 rw [q_a]
 refine ybQ _ _ _ _ _ ?_
 simp only [zZ, zY, q_f, q_m, q_U, v_ld, qb_h, ev, qb_p, qb_q, qb_A, qb_B, qb_C, resV, qb_D, if_true, if_false, reduceCtorEq, Nat.reduceEqDiff, Nat.reduceLT, Nat.zero_add, Nat.reduceAdd, and_true, true_and, qb_E, qb_F, hs0, hs1, hs2, qb_G, qb_H, qb_I, qb_J, qb_K, qb_L, qb_M, fldAk, l1, l2, l3, row1, row2, cm, ylI]
 refine hq _ _ (x12.trans (x3.trans x4)) ?_
 unfold ltK
 rw [decide_eq_true_eq]
 show _ ↔ keyN p.nm < keyN q.nm
 rw [e1, e2, yjA hr1 (by omega), yjA hr2 (by omega)]
 exact yqj hr1 (by omega) hr2 (by omega)
theorem ylL {P : Program} {T : XTab} (fr : Fr) (H : AH) (dd : Option Nat) (e : TypeId) (z0 z1 : Value) : xval P (xc P T) ⟨dd, .bslice e 2 0 [z0, z1] [], none⟩ fr H = some (.slice (some ⟨H.n, 0, none⟩) 0 0, H.push ⟨[], 2, false, false⟩) := rfl
theorem yjH (l : List FE) (h : ∀ p ∈ l, one p.w = true) : (FLS.cells l).all one = true := ykr _ _ fun p hp => by
 show ([.string (sB p.nm), p.w] : List Value).all one = true
 simp only [List.all_cons, List.all_nil, h p hp, ybp]; rfl
theorem ymU (l : List FE) (v : Value) (H : AH) (Q : Value -> AH -> Prop) (hv : Fils H v l) (hl : l.length <= 1000) (hq : ∀ H' w, OL FLS H.n H' w l -> HExt H H' -> Q w H') : Got (xc Tryz.prog tab 51 [v] H) Q := by
 refine yac (res := [.tmp 2]) rfl ?_
 have hone := yjH l fun p hp => (yan (hv.2.1 p hp)).1
 have app : ∀ (B o c n : Nat), v = .slice (some ⟨B, o, none⟩) n c -> Got (xapp (H.push ⟨[], 2, false, false⟩) 2 40 (.slice (some ⟨H.n, 0, none⟩) 0 0) v) Q := fun B o c n _ => by
  have o0 : OL FLS H.n (H.push ⟨[], 2, false, false⟩) (.slice (some ⟨H.n, 0, none⟩) 0 0) [] := Own.pushed H [] 2 0 false rfl
  refine OL.app (S := FLS) o0 (by simp) (hv.1.ext (yab H _)) hone 40 (by decide) (by simp; omega) ?_
  intro v' H' o' k' _ _ _
  exact hq H' v' (by simpa using o') (Keep.trans (n0 := H.n) (yab H _) k')
 rcases hv.1 with ⟨h1, h2, h3⟩ | ⟨B, o, h1, h2, h3, h4, h5⟩ | ⟨B, o, c, blk, h1, h2⟩
 ·subst h1
  have hl0 : l = [] := List.eq_nil_of_length_eq_zero h2
  subst hl0
  have e1 : yd3 (.slice none 0 0) (.slice none 0 0) = some true := rfl
  simp only [zZ, zY, ofArgs, q_f, q_i, q_m, q_B, qb_a, qb_m, ev, qb_A, qb_B, qb_C, resV, qb_D, if_true, if_false, reduceCtorEq, Nat.reduceEqDiff, Nat.reduceLT, e1]
  exact hq H _ (OL.nil _ _ _) (HExt.refl H)
 ·have ap := app B o 0 0 h1
  subst h1
  have e1 : yd3 (.slice none 0 0) (.slice (some ⟨B, o, none⟩) 0 0) = some false := rfl
  simp only [zZ, zY, ofArgs, q_d, q_f, q_m, q_C, qb_a, qb_m, ev, qb_A, qb_B, qb_C, resV, qb_D, if_true, if_false, reduceCtorEq, Nat.reduceEqDiff, Nat.reduceLT, e1, ylL]
  refine ap.mono ?_
  intro w H' hw
  exact hw
 ·have ap := app B o c _ h1
  subst h1
  have e1 : yd3 (.slice none 0 0) (.slice (some ⟨B, o, none⟩) l.length c) = some false := rfl
  simp only [zZ, zY, ofArgs, q_d, q_f, q_m, q_C, qb_a, qb_m, ev, qb_A, qb_B, qb_C, resV, qb_D, if_true, if_false, reduceCtorEq, Nat.reduceEqDiff, Nat.reduceLT, e1, ylL]
  refine ap.mono ?_
  intro w H' hw
  exact hw
theorem ylW (fs : List (Nat × List Int)) (hfl : fs.length <= 5) (hfr : ∀ x ∈ fs, x.1 < 4) (l : List FE) (v : Value) (H : AH) (Q : Value -> AH -> Prop) (hv : Fils H v l) (ht : l.map FE.told = told0 0 fs) (hg : GM H)
  (hq : ∀ H' w l', HExt H H' -> Fils H' w l' -> l'.map FE.told = lsAll fs -> Q w H') : Got (xc Tryz.prog tab 19 [v] H) Q := by
 have tl : ∀ (fs : List (Nat × List Int)) (j : Nat), (told0 j fs).length = fs.length := fun fs => by
  induction fs with
  | nil => intro j; rfl
  | cons x fs ih => intro j; rw [told0, List.length_cons, ih, List.length_cons]
 have hll : l.length = fs.length := by have := congrArg List.length ht; rw [List.length_map, tl] at this; exact this
 have tm : ∀ (fs : List (Nat × List Int)) (j : Nat) (e : List Int × List Int), e ∈ told0 j fs -> ∃ i x, fs[i]? = some x /\ e = (preN x.1 ++ nmF (j + i), x.2) := fun fs => by
  induction fs with
  | nil => intro j e h; simp [told0] at h
  | cons x fs ih =>
   intro j e h
   rw [told0] at h
   rcases List.mem_cons.1 h with rfl | h
   ·exact ⟨0, x, rfl, rfl⟩
   ·obtain ⟨i, y, h1, h2⟩ := ih (j + 1) e h
    exact ⟨i + 1, y, h1, by rw [h2, show j + 1 + i = j + (i + 1) by omega]⟩
 have law : ∀ p ∈ l, LawF p := fun p hp => by
  have hm : p.told ∈ l.map FE.told := List.mem_map_of_mem hp
  rw [ht] at hm
  obtain ⟨i, x, h1, h2⟩ := tm fs 0 _ hm
  have hi := (List.getElem?_eq_some_iff.1 h1).1
  exact ⟨x.1, 0 + i, hfr x (List.mem_of_getElem? h1), by omega, congrArg Prod.fst h2⟩
 have one1 : ∀ p ∈ l, one p.w = true := fun p hp => (yan (hv.2.1 p hp)).1
 refine yac (res := [.tmp 2]) rfl ?_
 simp only [zZ, zY, ofArgs, q_f, q_m, q_U, ev, qb_p, qb_q, qb_A, qb_B, qb_C, resV, qb_D, if_true, if_false, reduceCtorEq, Nat.reduceEqDiff, Nat.reduceLT]
 refine ymU l v H _ hv (by omega) ?_
 intro H1 w o1 x1
 refine yiB (S := FLS) rfl (ltK fun p : FE => keyN p.nm) _ GM H.n l (fun p hp => ?_) (fun a b H Q ha hb hi hq => ?_) (fun A B hA hk => ?_) w H1 _ (by omega) x1.1 (hg.ext x1) o1 ?_
 ·show ([.string (sB p.nm), p.w] : List Value).all one = true
  simp only [List.all_cons, List.all_nil, one1 p hp, ybp]; rfl
 ·exact ylm a b (law a ha) (law b hb) (one1 a ha) (one1 b hb) H Q hi fun H' c x hc => hq H' c x (hi.ext x) hc
 ·obtain ⟨blk, m, g1, g2⟩ := hA.g
  exact ⟨Nat.lt_of_lt_of_le hA.n hk.1, blk, m, (hk.2 0 hg.n).trans g1, g2⟩
 ·intro H2 o2 s2 _
  have x2 : HExt H H2 := Keep.trans (n0 := H.n) x1 (s2.keep o1 x1.1)
  have hp := ybD (ltK fun p : FE => keyN p.nm) l (l.length - 1)
  refine hq H2 w _ x2 ⟨o2.1, fun p hp' => Sl.ext x2 (hv.2.1 p (hp.mem_iff.1 hp')), fun p hp' => hv.2.2 p (hp.mem_iff.1 hp')⟩ ?_
  exact ylX fs (by omega) hfr l ht
def rootF (j : Nat) : Option Ent := if j = 0 then some (.dir 0 []) else none
theorem yni (N : Nat) (hN : 6 < N) (q : Nat) (h2 : 2 <= q) (hq : q < N) : (rootL N)[q]? = some (if q = 2 then zs128.set 0 2 else zs128) := by
 obtain ⟨_, _, a3, _⟩ := ygL N hN 6 (Nat.le_refl _)
 have hl := yc9 N 6
 unfold rootL
 rw [List.getElem?_set]
 by_cases e : 2 = q
 ·rw [if_pos e, if_pos (by omega), if_pos e.symm]
 ·rw [if_neg e, if_neg (fun h => e h.symm)]
  exact a3 q h2 hq
theorem root_nod : ((List.range 8).all fun k => ((zs128.set 0 2).drop (16 * k)).take 16 == (if k = 0 then (2 : Int) :: List.replicate 15 0 else List.replicate 16 0)) = true /\ ((List.range 8).all fun k => (zs128.drop (16 * k)).take 16 == List.replicate 16 0) = true := ⟨by kernel_rfl, by kernel_rfl⟩
theorem yjo (N : Nat) (hN : 6 < N) (i : Nat) (hi : i < 32) : nod (rootL N) i = if i = 0 then (2 : Int) :: List.replicate 15 0 else List.replicate 16 0 := by
 have hs := yni N hN (2 + i / 8) (by omega) (by omega)
 have hm := Nat.mod_lt i (by omega : 0 < 8)
 unfold nod
 rw [yaa hs]
 by_cases h : i / 8 = 0
 ·rw [if_pos (by omega)]
  have := List.all_eq_true.1 root_nod.1 (i % 8) (List.mem_range.2 hm)
  rw [beq_iff_eq] at this
  rw [this]
  have e : i % 8 = i := by omega
  rw [e]
 ·rw [if_neg (by omega), if_neg (by omega)]
  have := List.all_eq_true.1 root_nod.2 (i % 8) (List.mem_range.2 hm)
  exact beq_iff_eq.1 this
theorem ynm (N : Nat) (hN : 6 < N) (hN2 : N <= 240) : TRep (rootL N) rootF := by
 obtain ⟨a1, a2, a3, a4⟩ := ygL N hN 6 (Nat.le_refl _)
 have hl : (rootL N).length = N := by unfold rootL; rw [List.length_set, yc9]
 have g0 : GT rootF (fun _ => []) 0 = some ⟨2, 0, [], []⟩ := rfl
 have gn : ∀ i, i ≠ 0 -> GT rootF (fun _ => []) i = none := fun i h => by
  refine ygV ?_
  unfold rootF
  rw [if_neg h]
 refine ⟨⟨fun _ => [], ⟨by rw [hl]; exact hN, by rw [hl]; exact hN2, fun l hm => ?_, ?_, fun i x hi hx => ?_, fun i hi hx => ?_, fun i j x y k hi hj hne hx hy => ?_, fun k hk => ?_, ⟨_, g0, rfl, rfl⟩⟩⟩, ?_⟩
 ·unfold rootL at hm
  rcases List.mem_or_eq_of_mem_set hm with h | rfl
  ·exact a1 l h
  ·refine ⟨by simp [zs128], fun b hb => ?_⟩
   rcases List.mem_or_eq_of_mem_set hb with h | rfl
   ·exact zs_ok.2 b h
   ·omega
 ·have : (rootL N)[0]? = some (spI zs128 0 magicB) := by
   unfold rootL
   rw [List.getElem?_set, if_neg (by omega)]; exact a4
  rw [yaa this]
  rfl
 ·by_cases h : i = 0
  ·subst h
   rw [g0] at hx
   cases hx
   refine ⟨⟨.inr rfl, by decide, Nat.zero_le _, fun p hp => by simp at hp, by simp, fun b hb => by simp at hb, by simp [chP, need], List.nodup_nil, fun j c h => by simp [chP] at h⟩, ?_⟩
   rw [yjo N hN 0 (by omega)]
   rfl
  ·rw [gn i h] at hx; cases hx
 ·by_cases h : i = 0
  ·subst h; rw [g0] at hx; cases hx
  ·rw [yjo N hN i hi, if_neg h]; rfl
 ·by_cases h : i = 0
  ·rw [gn j (by omega)] at hy; cases hy
  ·rw [gn i h] at hx; cases hx
 ·have hu : usd (rootL N) k = usd (newL N 6) k := by
   have e : (rootL N).getD 1 [] = (newL N 6).getD 1 [] := by
    unfold rootL
    rw [List.getD_eq_getElem?_getD, List.getD_eq_getElem?_getD, List.getElem?_set, if_neg (by omega)]
   unfold usd; rw [e]
  rw [hu, a2 k hk, Bool.eq_iff_iff, ownB_true, decide_eq_true_eq]
  refine ⟨.inl, fun h => h.elim id ?_⟩
  rintro ⟨j, x, hj, hx, hm⟩
  by_cases h : j = 0
  ·subst h
   rw [g0] at hx
   cases hx
   simp [chP] at hm
  ·rw [gn j h] at hx; cases hx
 ·have hd : ∀ i p its, rootF i = some (.dir p its) -> i = 0 /\ p = 0 /\ its = [] := fun i p its h => by
   unfold rootF at h
   by_cases hi : i = 0
   ·rw [if_pos hi] at h; cases h; exact ⟨hi, rfl, rfl⟩
   ·rw [if_neg hi] at h; cases h
  refine ⟨⟨[], rfl⟩, fun i p its h => ?_, fun j e hj h => ?_, fun i e h => ?_, fun _ => 0, rfl, fun i p its h q hq => ?_⟩
  ·obtain ⟨_, _, rfl⟩ := hd i p its h
   exact ⟨fun k p q h => by simp at h, by simp, by simp, fun q hq => by simp at hq⟩
  ·unfold rootF at h
   rw [if_neg hj] at h; cases h
  ·unfold rootF at h
   by_cases hi : i = 0
   ·omega
   ·rw [if_neg hi] at h; cases h
  ·obtain ⟨_, _, rfl⟩ := hd i p its h
   simp at hq
theorem TDk.same {n0 : Nat} {T S : Int} {N : Nat} {H H' : AH} {v : Value} {F : Nat -> Option Ent} (t : TDk n0 T S N H v F) (hn : H.n <= H'.n) (hg : ∀ b, n0 <= b -> b < H.n -> H'.get b = H.get b) : TDk n0 T S N H' v F := by
 obtain ⟨⟨L, vs, d, R, g, hl⟩, h43⟩ := t
 exact ⟨⟨L, vs, d.same hn (fun b hb => hg b (Own.geB d.own hb) (d.own.1.lt hb)) (fun i x hx b hb => hg b (d.geAll i x hx b hb) (d.lt i x hx hb)), R, g, hl⟩, h43⟩
theorem TDk.ext {n0 : Nat} {T S : Int} {N : Nat} {H H' : AH} {v : Value} {F : Nat -> Option Ent} (t : TDk n0 T S N H v F) (x : HExt H H') : TDk n0 T S N H' v F := t.same x.1 fun b _ h => x.2 b h
theorem TDk.set {n0 : Nat} {T S : Int} {N : Nat} {H : AH} {v : Value} {F : Nat -> Option Ent} (t : TDk n0 T S N H v F) (E : Nat) (hE : E < n0) (bk : Blk) : TDk n0 T S N (H.set E bk) v F := t.same (Nat.le_refl _) fun b h1 h2 => by rw [AH.get_set, if_neg (by omega)]
theorem TDk.one {n0 : Nat} {T S : Int} {N : Nat} {H : AH} {v : Value} {F : Nat -> Option Ent} (t : TDk n0 T S N H v F) : one v = true /\ vcells v = [v] := by
 obtain ⟨⟨L, vs, d, _⟩, _⟩ := t
 exact yan d.own.1
theorem TDk.len {n0 : Nat} {T S : Int} {N : Nat} {H : AH} {v : Value} {F : Nat -> Option Ent} (t : TDk n0 T S N H v F) : pLen v H = some (.int .i64 (N : Int), H) := by
 obtain ⟨⟨L, vs, d, _, _, hl⟩, _⟩ := t
 rw [<- hl]
 exact d.secs.len
structure LawFs (n1 : Nat) (H : AH) (v : Value) (l : List FE) (fs : List (Nat × List Int)) : Prop where
 out : OutE n1 H v l
 told : l.map FE.told = told0 0 fs
 len : fs.length <= 5
 rr : ∀ x ∈ fs, x.1 < 4
 dt : ∀ x ∈ fs, x.2.length < 300 /\ B8 x.2
 ge : ∀ p ∈ l, ∀ b, inB p.w b -> n1 <= b
theorem ypQ (r : Nat) : B8 (preN r) := fun b hb => by
 rcases r with _ | _ | _ | r <;> simp [preN] at hb <;> omega
def Safe (vo : Value) (n0 : Nat) (H : AH) (w : Value) (F : Nat -> Option Ent) : Prop := ∀ H'', H.n <= H''.n -> (∀ b, b < H.n -> ¬ inB vo b -> n0 <= b -> H''.get b = H.get b) -> TDk n0 5 8 40 H'' w F
theorem Safe.ext {vo : Value} {n0 : Nat} {H H' : AH} {w : Value} {F : Nat -> Option Ent} (h : Safe vo n0 H w F) (x : HExt H H') : Safe vo n0 H' w F := fun H'' hn hg => h H'' (Nat.le_trans x.1 hn) fun b hb hv h0 => (hg b (Nat.lt_of_lt_of_le hb x.1) hv h0).trans (x.2 b hb)
theorem Safe.set {vo : Value} {n0 : Nat} {H : AH} {w : Value} {F : Nat -> Option Ent} (h : Safe vo n0 H w F) (E : Nat) (hE : E < n0) (bk : Blk) : Safe vo n0 (H.set E bk) w F := fun H'' hn hg => h H'' hn fun b hb hv h0 => (hg b hb hv h0).trans (by rw [AH.get_set, if_neg (by omega)])
theorem Safe.stp {vo : Value} {n0 : Nat} {H H' : AH} {w : Value} {F : Nat -> Option Ent} (h : Safe vo n0 H w F) (st : Stp vo H vo H') : Safe vo n0 H' w F := fun H'' hn hg => h H'' (Nat.le_trans st.n hn) fun b hb hv h0 => (hg b (Nat.lt_of_lt_of_le hb st.n) hv h0).trans (st.get b hb hv)
section
variable {n0 : Nat} {N : Nat} {H : AH} {v : Value} {F : Nat -> Option Ent}
theorem tdList {T S : Int} (t : TDk n0 T S N H v F) (hlen : (listT F).length <= 100000) (Q : Value -> AH -> Prop) (hq : ∀ H' vo l, HExt H H' -> Fils H' vo l -> l.map FE.told = listT F -> Q (.tuple [vo, .int .i64 0].toArray) H') : Got (xc Tryz.prog tab 17 [.agg #[.int .i64 T, .int .i64 S, v]] H) Q := by
 obtain ⟨⟨L, vs, d, R, g, hl⟩, h43⟩ := t
 exact ync R g v H Q d.secs hlen hq
end
theorem LawFs.fils {n1 : Nat} {H : AH} {v : Value} {l : List FE} {fs : List (Nat × List Int)} (h : LawFs n1 H v l fs) : Fils H v l := ⟨h.out.own.1, h.out.byt, fun p hp => by
 have tm : ∀ (fs : List (Nat × List Int)) (j : Nat) (e : List Int × List Int), e ∈ told0 j fs -> ∃ i x, fs[i]? = some x /\ e = (preN x.1 ++ nmF (j + i), x.2) := fun fs => by
  induction fs with
  | nil => intro j e h; simp [told0] at h
  | cons x fs ih =>
   intro j e h
   rw [told0] at h
   rcases List.mem_cons.1 h with rfl | h
   ·exact ⟨0, x, rfl, rfl⟩
   ·obtain ⟨i, y, h1, h2⟩ := ih (j + 1) e h
    exact ⟨i + 1, y, h1, by rw [h2, show j + 1 + i = j + (i + 1) by omega]⟩
 have hm : p.told ∈ l.map FE.told := List.mem_map_of_mem hp
 rw [h.told] at hm
 obtain ⟨i, x, h1, h2⟩ := tm fs 0 _ hm
 have hi := (List.getElem?_eq_some_iff.1 h1).1
 have := h.len
 have e1 : p.nm = preN x.1 ++ nmF (0 + i) := congrArg Prod.fst h2
 have e2 : p.dt = x.2 := congrArg Prod.snd h2
 rw [e1, e2]
 exact ⟨yfH (ypQ _) (yfA _ (by omega)).2, (h.dt x (List.mem_of_getElem? h1)).2⟩⟩
theorem LawFs.ext {n1 : Nat} {H H' : AH} {v : Value} {l : List FE} {fs : List (Nat × List Int)} (h : LawFs n1 H v l fs) (x : HExt H H') : LawFs n1 H' v l fs := ⟨h.out.ext x, h.told, h.len, h.rr, h.dt, h.ge⟩
theorem mkT {n0 : Nat} {T S : Int} {N : Nat} {H : AH} {w : Value} {F : Nat -> Option Ent} (t : TDk n0 T S N H w F) : ∃ H', pSt 3 (.pointer (some ⟨H.n, 0, none⟩)) (.agg #[.int .i64 T, .int .i64 S, w]) (H.push ⟨[.int .i64 0, .int .i64 0, .slice none 0 0], 1, false, false⟩) = some (undef, H') /\ Bx H' H.n [.int .i64 T, .int .i64 S, w] /\ HExt H H' /\ TDk n0 T S N H' w F := by
 have ow := t.one
 have hall : ([.int .i64 T, .int .i64 S, w] : List Value).all one = true := by simp only [List.all_cons, List.all_nil, ow.1, yaR]; rfl
 have x : HExt H ((H.push ⟨[.int .i64 0, .int .i64 0, .slice none 0 0], 1, false, false⟩).set H.n ⟨[.int .i64 T, .int .i64 S, w], 1, false, false⟩) := yds _ _ _
 exact ⟨_, (Bx.new H [.int .i64 0, .int .i64 0, .slice none 0 0]).stn 3 [.int .i64 T, .int .i64 S, w] rfl rfl hall, Bx.mk H _ _, x, t.ext x⟩
def fR (k : Nat) : List (List Int) -> List (List Int × Nat)
 | [] => []
 | _ :: l => (nmF k, 1 + k) :: fR (k + 1) l
def FR (ds : List (List Int)) (j : Nat) : Option Ent := if j = 0 then some (.dir 0 (fR 0 ds)) else (ds[j - 1]?).map fun d => .fil 0 d
theorem ymE : ∀ (l : List (List Int)) (k : Nat), (fR k l).length = l.length
 | [], _ => rfl
 | _ :: l, k => by rw [fR, List.length_cons, List.length_cons, ymE l (k + 1)]
theorem yoh : ∀ (l : List (List Int)) (k : Nat) (d : List Int), fR k (l ++ [d]) = fR k l ++ [(nmF (k + l.length), 1 + (k + l.length))]
 | [], k, d => rfl
 | x :: l, k, d => by
  have e : k + 1 + l.length = k + (x :: l).length := by rw [List.length_cons]; omega
  rw [List.cons_append, fR, fR, yoh l (k + 1) d, e]; rfl
theorem yk8 : ∀ (l : List (List Int)) (k : Nat) (q : List Int × Nat), q ∈ fR k l -> ∃ i, i < l.length /\ q = (nmF (k + i), 1 + (k + i))
 | [], k, q, h => by simp [fR] at h
 | x :: l, k, q, h => by
  rw [fR] at h
  rcases List.mem_cons.1 h with rfl | h
  ·exact ⟨0, by simp, rfl⟩
  ·obtain ⟨i, h1, h2⟩ := yk8 l (k + 1) q h
   exact ⟨i + 1, by rw [List.length_cons]; omega, by rw [h2, show k + 1 + i = k + (i + 1) by omega]⟩
theorem yg2 (ds : List (List Int)) : FR ds 0 = some (.dir 0 (fR 0 ds)) := if_pos rfl
theorem yg1 (ds : List (List Int)) (k : Nat) : FR ds (1 + k) = (ds[k]?).map fun d => .fil 0 d := by
 unfold FR
 rw [if_neg (by omega), show 1 + k - 1 = k by omega]
theorem yo6 : FR [] = rootF := by
 funext j
 unfold FR rootF
 by_cases h : j = 0
 ·rw [if_pos h, if_pos h]; rfl
 ·rw [if_neg h, if_neg h]; rfl
theorem yqb (ds : List (List Int)) (d : List Int) : addF (FR ds) 0 0 (fR 0 ds) (nmF ds.length) (1 + ds.length) (.fil 0 d) = FR (ds ++ [d]) := by
 funext j
 unfold addF
 by_cases e1 : j = 0
 ·subst e1
  rw [ycS, yg2, yoh, Nat.zero_add]
 ·rw [ybO _ _ e1]
  obtain ⟨k, rfl⟩ : ∃ k, j = 1 + k := ⟨j - 1, by omega⟩
  by_cases e2 : k = ds.length
  ·subst e2
   rw [ycS, yg1, List.getElem?_append_right (Nat.le_refl _), Nat.sub_self]; rfl
  ·rw [ybO _ _ (by omega), yg1, yg1]
   rcases Nat.lt_or_ge k ds.length with h | h
   ·rw [List.getElem?_append_left h]
   ·rw [List.getElem?_eq_none h, List.getElem?_eq_none (by rw [List.length_append]; show ds.length + 1 <= k; omega)]
theorem yp9 (ds : List (List Int)) (hf : ds.length <= 5) (hd : ∀ x ∈ ds, x.length < 300) : totT (FR ds) <= 17 := by
 have h : sumR (fun j => needE (FR ds j)) 32 <= sumR (fun j => if j < 1 then 2 else if j < 6 then 3 else 0) 32 := by
  refine ylQ fun j hj => ?_
  by_cases h4 : j = 0
  ·subst h4
   rw [yg2, ykj _ (fun q hq => by
    obtain ⟨i, h1, rfl⟩ := yk8 ds 0 q hq
    exact yp7 _ (by omega) _ (by omega))]
   exact ymi _ (by have := ymE ds 0; omega)
  ·obtain ⟨k, rfl⟩ : ∃ k, j = 1 + k := ⟨j - 1, by omega⟩
   rw [yg1, if_neg (by omega)]
   cases hk : ds[k]? with
   | none => exact Nat.zero_le _
   | some x =>
    have := (List.getElem?_eq_some_iff.1 hk).1
    have := hd x (List.mem_of_getElem? hk)
    rw [if_pos (by omega)]
    show need x.length <= 3
    unfold need; omega
 exact h
theorem yo7 (ds : List (List Int)) : FR ds (1 + ds.length) = none /\ ∀ j, j < 1 + ds.length -> FR ds j ≠ none := by
 refine ⟨by rw [yg1, List.getElem?_eq_none (Nat.le_refl _)]; rfl, fun j hj h => ?_⟩
 by_cases h4 : j = 0
 ·subst h4
  rw [yg2] at h; cases h
 ·obtain ⟨k, rfl⟩ : ∃ k, j = 1 + k := ⟨j - 1, by omega⟩
  rw [yg1, List.getElem?_eq_getElem (by omega)] at h
  cases h
theorem yqa (ds : List (List Int)) : fndP (FR ds) 0 ([] ++ [nmF ds.length]) = none := by
 have k : kid (FR ds) 0 (nmF ds.length) = none := by
  unfold kid
  rw [yg2]
  show ((fR 0 ds).find? (fun q => q.1 == nmF ds.length)).map (fun q => q.2) = none
  rw [yjJ fun q hq => ?_]
  ·rfl
  ·obtain ⟨i, h1, rfl⟩ := yk8 ds 0 q hq
   intro e
   have := yj9 _ _ e
   omega
 show (match kid (FR ds) 0 (nmF ds.length) with | some j => some j | none => none) = none
 rw [k]
theorem ymx (ds : List (List Int)) : listT (FR ds) = told0 0 (ds.map fun d => (0, d)) := by
 unfold listT
 rw [yg7 (FR ds) 8 0 [] (yg2 ds)]
 have key : ∀ (l : List (List Int)) (j : Nat), (∀ i x, l[i]? = some x -> ds[j + i]? = some x) -> (fR j l).flatMap (belowQ (FR ds) 8 []) = told0 j (l.map fun d => (0, d)) := fun l => by
  induction l with
  | nil => intro j _; rfl
  | cons x l ih =>
   intro j h
   have h0 : ds[j]? = some x := h 0 x rfl
   rw [fR, List.flatMap_cons, ih (j + 1) fun i y hy => by rw [show j + 1 + i = j + (i + 1) by omega]; exact h (i + 1) y hy]
   have : belowQ (FR ds) 8 [] (nmF j, 1 + j) = [(nmF j, x)] := by
    unfold belowQ
    rw [yg1, h0]; rfl
   rw [this]; rfl
 exact key ds 0 fun i x h => by rw [Nat.zero_add]; exact h
theorem yo3 (ds : List (List Int)) : lsAll (ds.map fun d => (0, d)) = told0 0 (ds.map fun d => (0, d)) := by
 have k1 : ∀ (l : List (List Int)) (j r : Nat) (path : List Int), 0 < r -> lsR j (l.map fun d => (0, d)) r path = [] := fun l => by
  induction l with
  | nil => intro j r path _; rfl
  | cons x l ih =>
   intro j r path h
   rw [List.map_cons, lsR, if_neg (by show ¬ (0 = r); omega), ih _ _ _ h]
 have k2 : ∀ (l : List (List Int)) (j : Nat), lsR j (l.map fun d => (0, d)) 0 [] = told0 j (l.map fun d => (0, d)) := fun l => by
  induction l with
  | nil => intro j; rfl
  | cons x l ih =>
   intro j
   rw [List.map_cons, lsR, if_pos rfl, ih, told0]; rfl
 unfold lsAll
 rw [k1 _ _ _ _ (by omega), k1 _ _ _ _ (by omega), k1 _ _ _ _ (by omega), k2]; rfl
theorem yjg : ∀ (l : List (List Int × List Int)) (j : Nat), (∀ i e, l[i]? = some e -> e.1 = nmF (j + i)) -> told0 j (l.map fun e => (0, e.2)) = l
 | [], j, _ => rfl
 | e :: l, j, h => by
  rw [List.map_cons, told0, yjg l (j + 1) fun i x hx => by rw [show j + 1 + i = j + (i + 1) by omega]; exact h (i + 1) x hx]
  have := h 0 e rfl
  rw [Nat.add_zero] at this
  show ([] ++ nmF j, e.2) :: l = _
  rw [List.nil_append, <- this]
theorem ypc (k : Nat) (hk : k < 5) : (⟨(Lib.replaceAll (sB (nmF k)).data.toList (ByteArray.mk #[47]).data.toList (ByteArray.mk #[45]).data.toList).toArray⟩ : ByteArray) = sB (nmF k) /\ (Nat.blt (sB (nmF k)).size 1000000 && Nat.ble 1 (ByteArray.mk #[47]).size && Nat.ble ((sB (nmF k)).size + Lib.countB (sB (nmF k)) (ByteArray.mk #[47]) * (ByteArray.mk #[45]).size) 140737488355328) = true := by
 rcases k with _ | _ | _ | _ | _ | k
 ·exact ⟨by kernel_rfl, by kernel_rfl⟩
 ·exact ⟨by kernel_rfl, by kernel_rfl⟩
 ·exact ⟨by kernel_rfl, by kernel_rfl⟩
 ·exact ⟨by kernel_rfl, by kernel_rfl⟩
 ·exact ⟨by kernel_rfl, by kernel_rfl⟩
 ·omega
theorem yor {l : List FE} {k : Nat} {f : FE} (h : l[k]? = some f) : (l.take (k + 1)).map FE.dt = (l.take k).map FE.dt ++ [f.dt] := by
 rw [yal _ _ _ h, List.map_append]; rfl
theorem yoZ {l : List FE} {ps : List PF} (ht : l.map FE.told = ps.map (fun p => (p.nm, p.dt))) (hnm : ∀ i p, ps[i]? = some p -> p.nm = nmF i) : ∀ i f, l[i]? = some f -> f.nm = nmF i /\ ∃ p, ps[i]? = some p /\ p.dt = f.dt := fun i f hi => by
 have h1 : (l.map FE.told)[i]? = some f.told := by rw [List.getElem?_map, hi]; rfl
 rw [ht, List.getElem?_map] at h1
 cases hp : ps[i]? with
 | none => rw [hp] at h1; simp at h1
 | some p =>
  rw [hp] at h1
  have : (p.nm, p.dt) = f.told := Option.some.inj h1
  refine ⟨?_, p, rfl, congrArg Prod.snd this⟩
  rw [<- hnm i p hp]
  exact (congrArg Prod.fst this).symm
set_option maxHeartbeats 8000000 in
theorem ykl {n0 : Nat} {w : Value} {L : List (List Int)} {ps0 : List PF} (H : AH) (c : CD n0 5 6 H w L ps0) (hnm : ∀ i p, ps0[i]? = some p -> p.nm = nmF i) (hl5 : ps0.length <= 5) (hd3 : ∀ p ∈ ps0, p.dt.length < 300) (Q : Value -> AH -> Prop) (hg : GM H)
  (hq : ∀ w' n1 H', TDk n1 5 6 30 H' w' (FR (ps0.map fun p => p.dt)) -> HExt H H' -> Q (.tuple [.agg #[.int .i64 5, .int .i64 6, w'], .slice none 0 0, .int .i64 0].toArray) H') :
  Got (xc Tryz.prog tab 27 [.agg #[.int .i64 5, .int .i64 6, w]] H) Q := by
 refine yac (res := [.cell 2 (some 3), .tmp 3, .tmp 4]) rfl ?_
 have vA : vcells (.agg #[.int .i64 5, .int .i64 6, w]) = [.int .i64 5, .int .i64 6, w] := rfl
 have b1 := Bx.new H [.int .i64 5, .int .i64 6, w]
 have x1 := yab H ⟨[.int .i64 5, .int .i64 6, w], 1, false, false⟩
 have n1 : (H.push ⟨[.int .i64 5, .int .i64 6, w], 1, false, false⟩).n = H.n + 1 := rfl
 have r1 := Bx.new (H.push ⟨[.int .i64 5, .int .i64 6, w], 1, false, false⟩) [.int .i64 0, .int .i64 0, .slice none 0 0]
 have x2 := yab (H.push ⟨[.int .i64 5, .int .i64 6, w], 1, false, false⟩) ⟨[.int .i64 0, .int .i64 0, .slice none 0 0], 1, false, false⟩
 generalize hTT : ((.seq (.ops (⟨some 14, _, _⟩ :: _) _) _) : XCode) = TT
 simp only [zZ, zY, ofArgs, qb_i, qb_j, ev, if_true, if_false, reduceCtorEq, Nat.reduceEqDiff, Nat.reduceLT, vA, n1]
 rw [n1] at r1
 have b2 := b1.ext x2
 have x12 := x1.trans x2
 generalize (H.push ⟨[.int .i64 5, .int .i64 6, w], 1, false, false⟩).push ⟨[.int .i64 0, .int .i64 0, .slice none 0 0], 1, false, false⟩ = H2 at *
 have ldn2 := b2.ldn 3 rfl
 have c2 := c.ext x12
 subst hTT
 generalize hTT : ((.seq (.seq (.ops (⟨some 18, _, _⟩ :: _) _) _) _) : XCode) = TT
 simp only [zZ, zY, q_U, q_Y, v_ld, ev, qb_p, qb_q, if_true, if_false, Nat.reduceEqDiff, Nat.reduceLT, ldn2]
 refine cList c2 _ ?_
 intro H3 vo l x3 hfl htold
 have x13 := x12.trans x3
 have r3 := r1.ext x3
 have b3 := b2.ext x3
 have hll : l.length = ps0.length := by have := congrArg List.length htold; simpa using this
 have hn := yoZ htold hnm
 have hdl : ∀ f ∈ l, f.dt.length < 300 := fun f hf => by
  have h1 : f.told ∈ l.map FE.told := List.mem_map_of_mem hf
  rw [htold] at h1
  obtain ⟨p, hp, e⟩ := List.mem_map.1 h1
  have h2 : p.dt = f.dt := congrArg Prod.snd e
  rw [<- h2]
  exact hd3 p hp
 have hall0 : l.map FE.dt = ps0.map fun p => p.dt := by
  have := congrArg (List.map Prod.snd) htold
  rw [List.map_map, List.map_map] at this
  exact this
 have hln := ybC hfl.1
 have d0 := b3.ld 0 _ rfl
 have d1 := b3.ld 1 _ rfl
 subst hTT
 generalize hTT : ((.seq (.seq (.ops (⟨some 30, _, _⟩ :: _) _) _) _) : XCode) = TT
 simp only [zZ, zY, q_d, q_C, q_P, q_Q, q_U, q_W, q_Y, v_ld, v_st, qb_h, qb_i, ev, qb_p, qb_q, qb_v, xbin, ibin, if_true, if_false, Nat.reduceEqDiff, Nat.reduceLT, bne_self_eq_false, fldAk, d0, d1]
 refine yos 5 6 (by omega) (by omega) (by omega) (by omega) 30 (by rfl) (by omega) (by omega) H3 _ ?_
 intro w0 vs0 H4 d4 x4
 have lr : (rootL 30).length = 30 := by unfold rootL; rw [List.length_set, yc9]
 have t4 : TDk H3.n 5 6 30 H4 w0 (FR []) := ⟨⟨rootL 30, vs0, by rw [lr]; exact d4, by rw [yo6]; exact ynm 30 (by omega) (by omega), ⟨by omega, by omega, by omega, by omega, by rw [lr]; rfl⟩, lr⟩, by omega⟩
 obtain ⟨H5, st5, b5, x5, t5⟩ := mkT t4
 have n45 : H4.n < H5.n := b5.2
 have n34 := x4.1
 have n23 := x3.1
 have n12 : H.n + 1 < H2.n := r1.2
 simp only [q_q, q_P, q_Q, st5]
 have x35 := x4.trans x5
 have hln5 := ybC (hfl.ext x35).1
 subst hTT
 simp only [zZ, zY, q_b, q_d, q_f, q_m, q_C, q_W, q_X, v_ld, v_st, ev, qb_v, xbin, ibin, qb_A, if_true, if_false, Nat.reduceEqDiff, Nat.reduceLT, bne_self_eq_false, hln5]
 refine yaz (fun k fr H' => ∃ w n0, TDk n0 5 6 30 H' w (FR ((l.take k).map FE.dt)) /\ H3.n <= n0 /\ (0 < k -> H4.n < n0) /\ Bx H' H4.n [.int .i64 5, .int .i64 6, w] /\ HExt H3 H' /\ H5.n <= H'.n /\ fr = [(2, .pointer (some ⟨H.n + 1, 0, none⟩)), (7, .pointer (some ⟨H4.n, 0, none⟩)), (8, .slice none 0 0), (34, vo), (35, .int .i64 (l.length : Int)), (36, .int .i64 (k : Int))]) l.length
  ⟨w0, H3.n, t5, Nat.le_refl _, (fun h => absurd h (Nat.lt_irrefl 0)), b5, x35, Nat.le_refl _, rfl⟩ ?_ ?_
 ·rintro k hk fr H6 ⟨w, n0, t6, hn0, hn0', b6, x36, n56, rfl⟩ J hJ
  have hlt : (k : Int) < (l.length : Int) := by omega
  have w3 := wrS k (by omega)
  obtain ⟨f, hf⟩ : ∃ f, l[k]? = some f := ⟨_, List.getElem?_eq_getElem hk⟩
  have hfm := List.mem_of_getElem? hf
  have f6 := hfl.ext x36
  have hby := f6.2.1 f hfm
  have h8 := f6.2.2 f hfm
  have hd1 := hdl f hfm
  have i1 := SL.at f6.1 .i64 (k : Int) k rfl hk
  have i2 := SL.ldk f6.1 k f hf
  have hz2 : FLS.sz = 2 := rfl
  have hff : ∀ p, FLS.f p = [.string (sB p.nm), p.w] := fun _ => rfl
  rw [hz2] at i1 i2
  rw [hff] at i2
  obtain ⟨o1, o2⟩ := yan hby
  have hall9 : ([.string (sB f.nm), f.w] : List Value).all one = true := by simp only [List.all_cons, List.all_nil, o1, ybp]; rfl
  have st9 := (Bx.new H6 [.string (ByteArray.mk #[]), .slice none 0 0]).stn 2 [.string (sB f.nm), f.w] rfl rfl hall9
  have b9 := Bx.mk H6 [.string (ByteArray.mk #[]), .slice none 0 0] [.string (sB f.nm), f.w]
  have x7 : HExt H6 ((H6.push ⟨[.string (ByteArray.mk #[]), .slice none 0 0], 1, false, false⟩).set H6.n ⟨[.string (sB f.nm), f.w], 1, false, false⟩) := yds _ _ _
  generalize hII : ((.ops [⟨some 59, .bin .add (.tmp 36) (.const (.int .i64 1)), none⟩, ⟨some 36, .mov (.tmp 59), none⟩] [2, 7, 8, 34, 35, 36]) : XCode) = II
  unfold ydF
  rw [hII]
  generalize hTT : ((.seq (.ops (⟨some 41, _, _⟩ :: _) _) _) : XCode) = TT
  simp only [zZ, zY, q_b, q_d, q_B, q_W, q_Z, v_ld, v_st, qb_i, ev, qb_v, xbin, ibin, if_true, if_false, Nat.reduceEqDiff, Nat.reduceLT, hlt, decide_true, i1, i2, st9]
  generalize (H6.push ⟨[.string (ByteArray.mk #[]), .slice none 0 0], 1, false, false⟩).set H6.n ⟨[.string (sB f.nm), f.w], 1, false, false⟩ = H7 at *
  have l11 := (b6.ext x7).ldn 3 rfl
  have l90 := b9.ld 0 _ rfl
  have l91 := b9.ld 1 _ rfl
  have n67 := x7.1
  obtain ⟨nk1, nk2⟩ := yfA k (by omega)
  obtain ⟨hfn, _⟩ := hn k f hf
  have t7 := t6.ext x7
  have htl : ((l.take k).map FE.dt).length = k := by rw [List.length_map, List.length_take]; omega
  have htd : ∀ x ∈ (l.take k).map FE.dt, x.length < 300 := fun x hx => by
   obtain ⟨q, hq1, rfl⟩ := List.mem_map.1 hx
   exact hdl q (List.mem_of_mem_take hq1)
  have htot := yp9 _ (by omega) htd
  have hfl' := ymE ((l.take k).map FE.dt) 0
  obtain ⟨fn1, fn2⟩ := yo7 ((l.take k).map FE.dt)
  have hkid := yqa ((l.take k).map FE.dt)
  have hadd := yqb ((l.take k).map FE.dt) f.dt
  have hsrt : Srt (fR 0 ((l.take k).map FE.dt) ++ [(nmF k, 1 + k)]) := by
   refine yne ?_ fun p hp => ?_
   ·obtain ⟨⟨L, vs, _, R, _⟩, _⟩ := t7
    exact (R.ok.its _ _ _ (yg2 _)).1
   ·obtain ⟨i, h1, rfl⟩ := yk8 _ 0 p hp
    rw [htl] at h1
    show lessN (nmF (0 + i)) (nmF k) = true
    rw [Nat.zero_add]
    exact ymm (by omega) h1
  rw [htl] at fn1 fn2 hkid hadd hfl'
  have hne1 : need (32 * ((fR 0 ((l.take k).map FE.dt)).length + 1)) <= 2 := ymi _ (by omega)
  have hne2 : need f.dt.length <= 3 := by unfold need; omega
  subst hTT
  generalize hTT : ((.seq (.seq (.ops (⟨some 49, _, _⟩ :: _) _) _) _) : XCode) = TT
  simp only [zZ, zY, q_U, q_Y, v_ld, v_st, qb_h, qb_i, ev, qb_p, qb_q, qb_v, if_true, if_false, Nat.reduceEqDiff, Nat.reduceLT, fldAk, l11, l90, l91]
  rw [hfn]
  refine ynb t7 [] (nmF k) (fun s hs => by simp at hs) nk1 nk2 (by decide) 0 0 (1 + k) (fR 0 ((l.take k).map FE.dt)) rfl (yg2 _) hkid (by omega) fn1 fn2 hsrt (by omega) f.dt f.w (Sl.ext x7 hby) h8.2 (by omega) (by omega) _ (hg.ext (x13.trans (x36.trans x7))) ?_
  intro H8 w' t8 x8
  rw [hadd, <- yor hf] at t8
  obtain ⟨H9, st10, b15, x9, t9⟩ := mkT t8
  simp only [q_q, q_P, q_Q, st10]
  have l15 := b15.ldn 3 rfl
  have b11 := ((b6.ext x7).ext x8).ext x9
  have ow := t9.one
  have hall : ([.int .i64 5, .int .i64 6, w'] : List Value).all one = true := by simp only [List.all_cons, List.all_nil, ow.1, yaR]; rfl
  have st11 := b11.stn 3 [.int .i64 5, .int .i64 6, w'] rfl rfl hall
  have b11' := b11.set [.int .i64 5, .int .i64 6, w']
  have t10 := t9.set H4.n (by omega) ⟨[.int .i64 5, .int .i64 6, w'], 1, false, false⟩
  have x69 := (x7.trans x8).trans x9
  have x10 : HExt H3 (H9.set H4.n ⟨[.int .i64 5, .int .i64 6, w'], 1, false, false⟩) := (x36.trans x69).trans' (Nat.le_refl _) fun b hb => by rw [AH.get_set, if_neg (by omega)]
  have n69 := x69.1
  subst hTT
  subst hII
  simp only [zZ, zY, q_d, q_j, q_C, q_W, v_ld, v_st, ev, qb_v, xbin, ibin, if_true, if_false, Nat.reduceEqDiff, Nat.reduceLT, bne_self_eq_false, l15, st11, w3]
  refine hJ _ _ ⟨w', H7.n, t10, ?_, fun _ => by omega, b11', x10, ?_, rfl⟩
  ·have := x36.1; omega
  ·show H5.n <= H9.n
   omega
 ·rintro fr H6 ⟨w, n0, t6, hn0, hn0', b6, x36, n56, rfl⟩
  rw [List.take_length, hall0] at t6
  have l11 := b6.ldn 3 rfl
  have r6 := r3.ext x36
  have ow := t6.one
  have hall : ([.int .i64 5, .int .i64 6, w] : List Value).all one = true := by simp only [List.all_cons, List.all_nil, ow.1, yaR]; rfl
  have st6 := r6.stn 3 [.int .i64 5, .int .i64 6, w] rfl rfl hall
  have r7 := r6.set [.int .i64 5, .int .i64 6, w]
  have hcell : ∀ (fr : Fr) (xs : List XRes), fr.get 2 = some (.pointer (some ⟨H.n + 1, 0, none⟩)) -> xress fr (H6.set (H.n + 1) ⟨[.int .i64 5, .int .i64 6, w], 1, false, false⟩) (.cell 2 (some 3) :: xs) = (xress fr (H6.set (H.n + 1) ⟨[.int .i64 5, .int .i64 6, w], 1, false, false⟩) xs).map fun vs => .agg #[.int .i64 5, .int .i64 6, w] :: vs := by
   intro fr xs hfr
   rw [ybI fr _ 2 _ 0 (some 3) _ (.agg #[.int .i64 5, .int .i64 6, w]) xs hfr r7.1 rfl]
  simp only [zZ, zY, ydF, q_b, q_e, q_h, q_j, q_k, q_C, q_U, q_W, q_Y, q_Z, v_ld, v_st, qb_h, qb_i, ev, qb_p, qb_q, qb_v, xbin, ibin, qb_B, qb_C, resV, qb_D, if_true, if_false, Nat.reduceEqDiff, Nat.reduceLT, Int.lt_irrefl, decide_false, l11, st6, hcell]
  refine hq w n0 _ (t6.set (H.n + 1) (by omega) _) ?_
  exact (x13.trans x36).trans' (Nat.le_refl _) fun b hb => by rw [AH.get_set, if_neg (by omega)]
theorem yoC {H : AH} (hg : GM H) : xc Tryz.prog tab 68 [.string (ByteArray.mk #[97, 47, 98]), .string (ByteArray.mk #[47]), .string (ByteArray.mk #[45])] H = some (.string (ByteArray.mk #[97, 45, 98]), H) := by
 obtain ⟨_, blk, m, hb, hc⟩ := hg
 have hT : tab 68 = some (.prim gReplAll) := rfl
 unfold xc ya3
 rw [hT]
 show gReplAll _ H = _
 unfold gReplAll
 simp only [hb, hc]
 have h1 : (Nat.blt (ByteArray.mk #[97, 47, 98]).size 1000000 && Nat.ble 1 (ByteArray.mk #[47]).size && Nat.ble ((ByteArray.mk #[97, 47, 98]).size + Lib.countB (ByteArray.mk #[97, 47, 98]) (ByteArray.mk #[47]) * (ByteArray.mk #[45]).size) 140737488355328) = true := by kernel_rfl
 have h2 : (⟨(Lib.replaceAll (ByteArray.mk #[97, 47, 98]).data.toList (ByteArray.mk #[47]).data.toList (ByteArray.mk #[45]).data.toList).toArray⟩ : ByteArray) = ByteArray.mk #[97, 45, 98] := by kernel_rfl
 rw [h1, h2]
 rfl
theorem yoB {H : AH} (hg : GM H) (k : Nat) (hk : k < 5) : xc Tryz.prog tab 68 [.string (sB (nmF k)), .string (ByteArray.mk #[47]), .string (ByteArray.mk #[45])] H = some (.string (sB (nmF k)), H) := by
 obtain ⟨_, blk, m, hb, hc⟩ := hg
 obtain ⟨h2, h1⟩ := ypc k hk
 have hT : tab 68 = some (.prim gReplAll) := rfl
 unfold xc ya3
 rw [hT]
 show gReplAll _ H = _
 unfold gReplAll
 simp only [hb, hc]
 rw [h1, h2]
 rfl
theorem ypd {H : AH} (hg : GM H) (Q : Value -> AH -> Prop) (hq : Q (.string (ByteArray.mk #[97, 45, 98])) H) : Got (xc Tryz.prog tab 30 [.string (ByteArray.mk #[97, 47, 98])] H) Q := by
 refine yac (res := [.tmp 2]) rfl ?_
 have e := yoC hg
 simp only [zZ, zY, ofArgs, q_f, q_m, q_U, ev, qb_p, qb_q, qb_A, qb_B, qb_C, resV, qb_D, if_true, if_false, reduceCtorEq, Nat.reduceEqDiff, Nat.reduceLT, e]
 exact hq
theorem ypb {H : AH} (hg : GM H) (k : Nat) (hk : k < 5) (Q : Value -> AH -> Prop) (hq : Q (.string (sB (nmF k))) H) : Got (xc Tryz.prog tab 30 [.string (sB (nmF k))] H) Q := by
 refine yac (res := [.tmp 2]) rfl ?_
 have e := yoB hg k hk
 simp only [zZ, zY, ofArgs, q_f, q_m, q_U, ev, qb_p, qb_q, qb_A, qb_B, qb_C, resV, qb_D, if_true, if_false, reduceCtorEq, Nat.reduceEqDiff, Nat.reduceLT, e]
 exact hq
theorem ab_eq : sbin .eql (ByteArray.mk #[97, 45, 98]) (ByteArray.mk #[97, 45, 98]) = some (.bool true) := by
 have h8 : B8 [97, 45, 98] := fun b hb => by
  simp only [List.mem_cons, List.not_mem_nil, or_false] at hb
  omega
 have h := sbe h8 h8
 rw [decide_eq_true rfl] at h
 exact h
set_option maxHeartbeats 8000000 in
theorem yjM {n0 : Nat} {w : Value} {ds : List (List Int)} (H : AH) (t : TDk n0 5 6 30 H w (FR ds)) (hl5 : ds.length <= 5) (hd3 : ∀ x ∈ ds, x.length < 300) (Q : Value -> AH -> Prop) (hg : GM H)
  (hq : ∀ w' L ps n1 H', CD n1 5 6 H' w' L ps -> ps.map (fun p => (p.nm, p.dt)) = told0 0 (ds.map fun d => (0, d)) -> HExt H H' -> Q (.tuple [.agg #[.int .i64 5, .int .i64 6, w'], .slice none 0 0, .int .i64 0].toArray) H') :
  Got (xc Tryz.prog tab 28 [.agg #[.int .i64 5, .int .i64 6, w]] H) Q := by
 refine yac (res := [.cell 2 (some 3), .tmp 3, .tmp 4]) rfl ?_
 have vA : vcells (.agg #[.int .i64 5, .int .i64 6, w]) = [.int .i64 5, .int .i64 6, w] := rfl
 have b1 := Bx.new H [.int .i64 5, .int .i64 6, w]
 have x1 := yab H ⟨[.int .i64 5, .int .i64 6, w], 1, false, false⟩
 have n1 : (H.push ⟨[.int .i64 5, .int .i64 6, w], 1, false, false⟩).n = H.n + 1 := rfl
 have r1 := Bx.new (H.push ⟨[.int .i64 5, .int .i64 6, w], 1, false, false⟩) [.int .i64 0, .int .i64 0, .slice none 0 0]
 have x2 := yab (H.push ⟨[.int .i64 5, .int .i64 6, w], 1, false, false⟩) ⟨[.int .i64 0, .int .i64 0, .slice none 0 0], 1, false, false⟩
 generalize hTT : ((.seq (.ops (⟨some 17, _, _⟩ :: _) _) _) : XCode) = TT
 simp only [zZ, zY, ofArgs, qb_i, qb_j, ev, if_true, if_false, reduceCtorEq, Nat.reduceEqDiff, Nat.reduceLT, vA, n1]
 rw [n1] at r1
 have b2 := b1.ext x2
 have x12 := x1.trans x2
 generalize (H.push ⟨[.int .i64 5, .int .i64 6, w], 1, false, false⟩).push ⟨[.int .i64 0, .int .i64 0, .slice none 0 0], 1, false, false⟩ = H2 at *
 have ldn2 := b2.ldn 3 rfl
 have t2 := t.ext x12
 have tll : ∀ (fs : List (Nat × List Int)) (j : Nat), (told0 j fs).length = fs.length := fun fs => by
  induction fs with
  | nil => intro j; rfl
  | cons x fs ih => intro j; rw [told0, List.length_cons, ih, List.length_cons]
 subst hTT
 generalize hTT : ((.seq (.seq (.ops (⟨some 21, _, _⟩ :: _) _) _) _) : XCode) = TT
 simp only [zZ, zY, q_U, q_Y, v_ld, ev, qb_p, qb_q, if_true, if_false, Nat.reduceEqDiff, Nat.reduceLT, ldn2]
 refine tdList t2 (by rw [ymx, tll, List.length_map]; omega) _ ?_
 intro H3 vo l x3 hfl htold
 rw [ymx] at htold
 have x13 := x12.trans x3
 have r3 := r1.ext x3
 have b3 := b2.ext x3
 have hll : l.length = ds.length := by have := congrArg List.length htold; rw [List.length_map, tll, List.length_map] at this; exact this
 have hn : ∀ i f, l[i]? = some f -> f.nm = nmF i /\ f.dt.length < 300 := fun i f hi => by
  have h1 : (l.map FE.told)[i]? = some f.told := by rw [List.getElem?_map, hi]; rfl
  have tg : ∀ (fs : List (List Int)) (j i : Nat) (e : List Int × List Int), (told0 j (fs.map fun d => (0, d)))[i]? = some e -> ∃ x, x ∈ fs /\ e = (nmF (j + i), x) := fun fs => by
   induction fs with
   | nil => intro j i e h; simp [told0] at h
   | cons y fs ih =>
    intro j i e h
    rw [List.map_cons, told0] at h
    rcases i with _ | i
    ·cases h
     exact ⟨y, List.mem_cons.2 (.inl rfl), rfl⟩
    ·rw [List.getElem?_cons_succ] at h
     obtain ⟨x, h1, h2⟩ := ih (j + 1) i e h
     exact ⟨x, List.mem_cons_of_mem _ h1, by rw [h2, show j + 1 + i = j + (i + 1) by omega]⟩
  rw [htold] at h1
  obtain ⟨x, hx, e⟩ := tg ds 0 i _ h1
  have e1 : f.nm = nmF (0 + i) := congrArg Prod.fst e
  have e2 : f.dt = x := congrArg Prod.snd e
  rw [Nat.zero_add] at e1
  exact ⟨e1, by rw [e2]; exact hd3 x hx⟩
 have hln := ybC hfl.1
 have d0 := b3.ld 0 _ rfl
 have d1 := b3.ld 1 _ rfl
 subst hTT
 generalize hTT : ((.seq (.seq (.ops (⟨some 33, _, _⟩ :: _) _) _) _) : XCode) = TT
 simp only [zZ, zY, q_d, q_C, q_P, q_Q, q_U, q_W, q_Y, v_ld, v_st, qb_h, qb_i, ev, qb_p, qb_q, qb_v, xbin, ibin, if_true, if_false, Nat.reduceEqDiff, Nat.reduceLT, bne_self_eq_false, fldAk, d0, d1]
 refine cNew 5 6 (by omega) (by omega) (by omega) (by omega) 30 (by rfl) (by omega) (by omega) H3 _ ?_
 intro w0 L0 H4 c4 hL0 hr0 x4
 obtain ⟨H5, st5, b5, x5, c5⟩ := mk3 c4
 have n45 : H4.n < H5.n := b5.2
 have n34 := x4.1
 have n23 := x3.1
 have n12 : H.n + 1 < H2.n := r1.2
 simp only [q_q, q_P, q_Q, st5]
 have x35 := x4.trans x5
 have hln5 := ybC (hfl.ext x35).1
 subst hTT
 simp only [zZ, zY, q_b, q_d, q_f, q_m, q_C, q_W, q_X, v_ld, v_st, ev, qb_v, xbin, ibin, qb_A, if_true, if_false, Nat.reduceEqDiff, Nat.reduceLT, bne_self_eq_false, hln5]
 refine yaz (fun k fr H' => ∃ w L ps n0, CD n0 5 6 H' w L ps /\ ps.map (fun p => (p.nm, p.dt)) = (l.take k).map FE.told /\ roomP L + 3 * k >= 20 /\ H3.n <= n0 /\ Bx H' H4.n [.int .i64 5, .int .i64 6, w] /\ HExt H3 H' /\ H5.n <= H'.n /\ fr = [(2, .pointer (some ⟨H.n + 1, 0, none⟩)), (7, .pointer (some ⟨H4.n, 0, none⟩)), (8, .slice none 0 0), (37, vo), (38, .int .i64 (l.length : Int)), (39, .int .i64 (k : Int))]) l.length
  ⟨w0, L0, [], H3.n, c5, rfl, by omega, Nat.le_refl _, b5, x35, Nat.le_refl _, rfl⟩ ?_ ?_
 ·rintro k hk fr H6 ⟨w, L, ps, n0, c6, hps6, hrm, hn0, b6, x36, n56, rfl⟩ J hJ
  have hlt : (k : Int) < (l.length : Int) := by omega
  have w3 := wrS k (by omega)
  obtain ⟨f, hf⟩ : ∃ f, l[k]? = some f := ⟨_, List.getElem?_eq_getElem hk⟩
  have hfm := List.mem_of_getElem? hf
  have f6 := hfl.ext x36
  have hby := f6.2.1 f hfm
  have h8 := f6.2.2 f hfm
  have i1 := SL.at f6.1 .i64 (k : Int) k rfl hk
  have i2 := SL.ldk f6.1 k f hf
  have hz2 : FLS.sz = 2 := rfl
  have hff : ∀ p, FLS.f p = [.string (sB p.nm), p.w] := fun _ => rfl
  rw [hz2] at i1 i2
  rw [hff] at i2
  obtain ⟨o1, o2⟩ := yan hby
  have hall9 : ([.string (sB f.nm), f.w] : List Value).all one = true := by simp only [List.all_cons, List.all_nil, o1, ybp]; rfl
  have st9 := (Bx.new H6 [.string (ByteArray.mk #[]), .slice none 0 0]).stn 2 [.string (sB f.nm), f.w] rfl rfl hall9
  have b9 := Bx.mk H6 [.string (ByteArray.mk #[]), .slice none 0 0] [.string (sB f.nm), f.w]
  have x7 : HExt H6 ((H6.push ⟨[.string (ByteArray.mk #[]), .slice none 0 0], 1, false, false⟩).set H6.n ⟨[.string (sB f.nm), f.w], 1, false, false⟩) := yds _ _ _
  generalize hII : ((.ops [⟨some 78, .bin .add (.tmp 39) (.const (.int .i64 1)), none⟩, ⟨some 39, .mov (.tmp 78), none⟩] [2, 7, 8, 37, 38, 39]) : XCode) = II
  unfold ydm
  rw [hII]
  generalize hTT : ((.seq (.ops (⟨some 43, _, _⟩ :: _) _) _) : XCode) = TT
  simp only [zZ, zY, q_b, q_d, q_B, q_W, q_Z, v_ld, v_st, qb_i, ev, qb_v, xbin, ibin, if_true, if_false, Nat.reduceEqDiff, Nat.reduceLT, hlt, decide_true, i1, i2, st9]
  generalize (H6.push ⟨[.string (ByteArray.mk #[]), .slice none 0 0], 1, false, false⟩).set H6.n ⟨[.string (sB f.nm), f.w], 1, false, false⟩ = H7 at *
  have l11 := (b6.ext x7).ldn 3 rfl
  have l90 := b9.ld 0 _ rfl
  have n67 := x7.1
  obtain ⟨nk1, nk2⟩ := yfA k (by omega)
  obtain ⟨hfn, hd1⟩ := hn k f hf
  have c7 := c6.ext x7
  have g7 := hg.ext (x13.trans (x36.trans x7))
  have hpl : ps.length = k := by have := congrArg List.length hps6; rw [List.length_map, List.length_map, List.length_take] at this; omega
  have hfr : ∀ p ∈ ps, p.nm ≠ nmF k := fun p hp e => by
   have h1 : (p.nm, p.dt) ∈ ps.map fun p => (p.nm, p.dt) := List.mem_map_of_mem hp
   rw [hps6] at h1
   obtain ⟨q, hq1, hq2⟩ := List.mem_map.1 h1
   obtain ⟨i, hi⟩ := List.mem_iff_getElem?.1 hq1
   have hik : i < k := by have := (List.getElem?_eq_some_iff.1 hi).1; rw [List.length_take] at this; omega
   rw [List.getElem?_take, if_pos hik] at hi
   have h2 : q.nm = p.nm := congrArg Prod.fst hq2
   rw [(hn i q hi).1, e] at h2
   have := yj9 _ _ h2
   omega
  have hne2 : need f.dt.length <= 3 := by unfold need; omega
  have e40 : ((4 : Int) == 0) = false := rfl
  subst hTT
  generalize hTT : ((.seq (.ops (⟨some 47, _, _⟩ :: _) _) _) : XCode) = TT
  simp only [zZ, zY, q_U, v_ld, qb_h, ev, qb_p, qb_q, if_true, if_false, Nat.reduceEqDiff, Nat.reduceLT, fldAk, l90]
  rw [hfn]
  refine ypb g7 k (by omega) _ ?_
  subst hTT
  generalize hTT : ((.seq (.seq (.ops (⟨some 52, _, _⟩ :: _) _) _) _) : XCode) = TT
  simp only [zZ, zY, q_U, q_Y, v_ld, ev, qb_p, qb_q, if_true, if_false, Nat.reduceEqDiff, Nat.reduceLT, l11]
  refine cGone c7 (nmF k) nk2 hfr _ ?_
  intro HG xG
  have lG := ((b6.ext x7).ext xG).ldn 3 rfl
  have l9G := (b9.ext xG).ld 1 _ rfl
  have cG := c7.ext xG
  have nG := xG.1
  subst hTT
  generalize hTT : ((.ops (⟨some 77, _, _⟩ :: _) _) : XCode) = TT
  simp only [zZ, zY, q_d, q_C, q_P, q_Q, q_U, q_W, q_Y, v_ld, v_st, qb_h, qb_i, ev, qb_p, qb_q, qb_v, xbin, ibin, if_true, if_false, Nat.reduceEqDiff, Nat.reduceLT, e40, fldAk, lG, l9G]
  refine cPut cG (nmF k) f.dt f.w nk1 nk2 (Sl.ext (x7.trans xG) hby) h8.2 (by omega) (by omega) hfr (by omega) _ ?_
  intro w' L' p' H8 c8 e8 d8 hL' hr' _ _ x8
  obtain ⟨H9, st10, b15, x9, c9⟩ := mk3 c8
  simp only [q_q, q_P, q_Q, zC, if_true, st10]
  have l15 := b15.ldn 3 rfl
  have x7G := x7.trans xG
  have x79 := x8.trans x9
  have b11 := (b6.ext x7G).ext x79
  have ow : one w' = true := by obtain ⟨vs, d⟩ := c9.dk; exact (yan d.own.1).1
  have hall : ([.int .i64 5, .int .i64 6, w'] : List Value).all one = true := by simp only [List.all_cons, List.all_nil, ow, yaR]; rfl
  have st11 := b11.stn 3 [.int .i64 5, .int .i64 6, w'] rfl rfl hall
  have b11' := b11.set [.int .i64 5, .int .i64 6, w']
  have c10 := c9.set H4.n (by omega) ⟨[.int .i64 5, .int .i64 6, w'], 1, false, false⟩
  have x69 := x7G.trans x79
  have x10 : HExt H3 (H9.set H4.n ⟨[.int .i64 5, .int .i64 6, w'], 1, false, false⟩) := (x36.trans x69).trans' (Nat.le_refl _) fun b hb => by rw [AH.get_set, if_neg (by omega)]
  have n69 := x69.1
  subst hTT
  subst hII
  simp only [zZ, zY, q_d, q_j, q_C, q_W, v_ld, v_st, ev, qb_v, xbin, ibin, if_true, if_false, Nat.reduceEqDiff, Nat.reduceLT, bne_self_eq_false, l15, st11, w3]
  refine hJ _ _ ⟨w', L', ps ++ [p'], HG.n, c10, ?_, by omega, ?_, b11', x10, ?_, rfl⟩
  ·rw [List.map_append, hps6, yal _ _ _ hf, List.map_append, List.map_cons, List.map_nil, List.map_cons, List.map_nil, e8, d8]
   show _ ++ [(nmF k, f.dt)] = _ ++ [(f.nm, f.dt)]
   rw [hfn]
  ·have := x36.1; omega
  ·show H5.n <= H9.n
   omega
 ·rintro fr H6 ⟨w, L, ps, n0, c6, hps6, hrm, hn0, b6, x36, n56, rfl⟩
  rw [List.take_length, htold] at hps6
  have l11 := b6.ldn 3 rfl
  have r6 := r3.ext x36
  have ow : one w = true := by obtain ⟨vs, d⟩ := c6.dk; exact (yan d.own.1).1
  have hall : ([.int .i64 5, .int .i64 6, w] : List Value).all one = true := by simp only [List.all_cons, List.all_nil, ow, yaR]; rfl
  have st6 := r6.stn 3 [.int .i64 5, .int .i64 6, w] rfl rfl hall
  have r7 := r6.set [.int .i64 5, .int .i64 6, w]
  have hcell : ∀ (fr : Fr) (xs : List XRes), fr.get 2 = some (.pointer (some ⟨H.n + 1, 0, none⟩)) -> xress fr (H6.set (H.n + 1) ⟨[.int .i64 5, .int .i64 6, w], 1, false, false⟩) (.cell 2 (some 3) :: xs) = (xress fr (H6.set (H.n + 1) ⟨[.int .i64 5, .int .i64 6, w], 1, false, false⟩) xs).map fun vs => .agg #[.int .i64 5, .int .i64 6, w] :: vs := by
   intro fr xs hfr
   rw [ybI fr _ 2 _ 0 (some 3) _ (.agg #[.int .i64 5, .int .i64 6, w]) xs hfr r7.1 rfl]
  simp only [zZ, zY, ydm, q_b, q_e, q_h, q_j, q_k, q_C, q_U, q_W, q_Y, q_Z, v_ld, v_st, qb_h, qb_i, ev, qb_p, qb_q, qb_v, xbin, ibin, qb_B, qb_C, resV, qb_D, if_true, if_false, Nat.reduceEqDiff, Nat.reduceLT, Int.lt_irrefl, decide_false, l11, st6, hcell]
  refine hq w L ps n0 _ (c6.set (H.n + 1) (by omega) _) hps6 ?_
  exact (x13.trans x36).trans' (Nat.le_refl _) fun b hb => by rw [AH.get_set, if_neg (by omega)]
set_option maxHeartbeats 8000000 in
theorem yks (l : List Int) (s1 : Value) (H : AH) (hs1 : Ints H s1 l) (hg : GM H) : Got (xc Tryz.prog tab 6 [s1] H) fun v H' => v = .bool true := by
 refine yac (res := [.tmp 2]) rfl ?_
 generalize hTT : ((.seq (.seq (.ops (⟨some 20, _, _⟩ :: _) _) _) _) : XCode) = TT
 simp only [zZ, zY, ofArgs, q_U, q_Y, v_st, qb_i, ev, qb_p, qb_q, qb_v, if_true, if_false, reduceCtorEq, Nat.reduceEqDiff, Nat.reduceLT]
 refine yly l s1 H _ hs1 ?_
 intro w vo L ps fs n0 n1 H1 ch x1
 obtain ⟨H2, st2, b2, x2, c2⟩ := mk3 ch.cd
 simp only [q_q, q_P, q_Q, q_R, st2]
 have ch2 := ch.ext x2
 have l2 := b2.ldn 3 rfl
 have hpl := ch.plen
 have hf5 := ch.gf.len
 have hnm : ∀ i p, ps[i]? = some p -> p.nm = nmF i /\ p.dt.length < 300 := fun i p hp => by
  obtain ⟨f, hf, pn, pd, fnm⟩ := ch.nm i p hp
  refine ⟨pn.trans fnm, ?_⟩
  have := ch.gf.dts f (List.mem_of_getElem? hf)
  rw [pd]; exact this.1
 have hd3 : ∀ p ∈ ps, p.dt.length < 300 := fun p hp => by
  obtain ⟨i, hi⟩ := List.mem_iff_getElem?.1 hp
  exact (hnm i p hi).2
 have hdsl : (ps.map fun p => p.dt).length = ps.length := List.length_map _
 have htold : fs.map FE.told = told0 0 ((ps.map fun p => p.dt).map fun d => (0, d)) := by
  have h := yjg (ps.map fun p => (p.nm, p.dt)) 0 fun i e he => by
   rw [List.getElem?_map] at he
   cases hp : ps[i]? with
   | none => rw [hp] at he; cases he
   | some p =>
    rw [hp] at he
    cases he
    rw [Nat.zero_add]
    exact (hnm i p hp).1
  rw [<- ch.told, <- h, List.map_map, List.map_map]
  rfl
 subst hTT
 generalize hTT : ((.seq (.ops (⟨some 29, _, _⟩ :: _) _) _) : XCode) = TT
 simp only [zZ, zY, q_d, q_C, q_E, q_J, zE, q_U, q_Y, v_ld, v_st, qb_i, ev, qb_p, qb_q, qb_v, if_true, if_false, Nat.reduceEqDiff, Nat.reduceLT, l2]
 refine ykl H2 c2 (fun i p hp => (hnm i p hp).1) (by omega) hd3 _ (hg.ext (x1.trans x2)) ?_
 intro wt m1 H3 t3 x3
 obtain ⟨H4, st4, b4, x4, t4⟩ := mkT t3
 simp only [q_q, q_P, q_Q, q_R, st4]
 have l4 := b4.ldn 3 rfl
 have x14 := ((x1.trans x2).trans x3).trans x4
 subst hTT
 generalize hTT : ((.seq (.ops (⟨some 35, _, _⟩ :: _) _) _) : XCode) = TT
 simp only [zZ, zY, q_U, q_Y, v_ld, v_st, qb_i, ev, qb_p, qb_q, qb_v, if_true, if_false, Nat.reduceEqDiff, Nat.reduceLT, l4]
 refine yjM H4 t4 (by omega) (fun x hx => by
  obtain ⟨p, hp, rfl⟩ := List.mem_map.1 hx
  exact hd3 p hp) _ (hg.ext x14) ?_
 intro wc L2 ps2 m2 H5 c5 hps2 x5
 obtain ⟨H6, st6, b6, x6, c6⟩ := mk3 c5
 simp only [q_q, q_P, q_Q, q_R, st6]
 have l6 := b6.ldn 3 rfl
 have hpd2 : ∀ p ∈ ps2, p.dt.length <= 1000000 := fun p hp => by have := (c5.old p hp).dl; omega
 subst hTT
 generalize hTT : ((.seq (.ops (⟨some 39, _, _⟩ :: _) _) _) : XCode) = TT
 simp only [zZ, zY, q_U, q_Y, v_ld, ev, qb_p, qb_q, if_true, if_false, Nat.reduceEqDiff, Nat.reduceLT, l6]
 refine cList c6 _ ?_
 intro H7 vl l7 x7 f7 ht7
 obtain ⟨tl1, tl2⟩ := yna ht7 hpd2
 have x17 := x14.trans ((x5.trans x6).trans x7)
 have e00 : ((0 : Int) == 0) = true := rfl
 have pn : ∀ H : AH, pLen (.slice none 0 0) H = some (.int .i64 0, H) := fun _ => rfl
 have w0 : IntKind.i64.wrap (0 + 0) = 0 := rfl
 have xH7 : HExt H1 H7 := (x2.trans x3).trans (x4.trans ((x5.trans x6).trans x7))
 subst hTT
 simp only [zZ, zY, q_f, q_m, q_r, q_P, q_Q, q_U, q_W, q_X, qb_o, ev, qb_p, qb_q, xbin, ibin, qb_A, qb_B, qb_C, if_true, if_false, Nat.reduceEqDiff, Nat.reduceLT, e00, pn, w0]
 refine ylW ((ps.map fun p => p.dt).map fun d => (0, d)) (by rw [List.length_map]; omega) (fun x hx => by
  obtain ⟨d, _, rfl⟩ := List.mem_map.1 hx
  show (0 : Nat) < 4
  omega) fs vo H7 _ (ch.gf.fils.ext xH7) htold (hg.ext x17) ?_
 intro H8 vs' l' x8 f8 ht8
 rw [yo3] at ht8
 have hpl2 : ps2.length <= 1000 := by have := c5.pl; omega
 refine yoy l7 l' vl vs' H8 _ (f7.ext x8) f8 (by rw [ht7, hps2, ht8]) tl2 (by omega) ?_
 intro H9 x9
 simp only [zZ, zY, q_r, q_U, q_W, qb_o, ev, qb_p, qb_q, xbin, ibin, resV, qb_D, if_true, if_false, Nat.reduceEqDiff, Nat.reduceLT]
 refine ypd (hg.ext ((x17.trans x8).trans x9)) _ ?_
 simp only [q_q, zC, ab_eq]
theorem ConvBack_law (l : List Int) (s1 : Value) (H : AH) (hs1 : Ints H s1 l) (hn : 0 < H.n) (hm : ∃ blk m, H.get 0 = some blk /\ blk.cells = [.int .i64 m]) :
  Got (xc Tryz.prog tab 6 [s1] H) fun v H' => v = .bool true := yks l s1 H hs1 ⟨hn, hm⟩
end Go.Proofs.YtnjjnnfpnjjccaaGreatDoor.D
