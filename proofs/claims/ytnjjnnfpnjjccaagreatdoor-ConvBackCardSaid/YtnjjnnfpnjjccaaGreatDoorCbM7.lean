/- What runs of the program's functions compute, on a heap of the run's own, and that the machine does what such a run says: the conditions stand in each theorem. -/
import Derived.Test.YtnjjnnfpnjjccaaGreatDoorCbM6
set_option linter.unusedSimpArgs false
set_option linter.unusedVariables false
namespace Go.Proofs.YtnjjnnfpnjjccaaGreatDoor.D
open Go Go.Det
variable {L : List (List Int)} {F : Nat -> Option Ent} {P : Nat -> List (Nat × Nat)}
def kid (F : Nat -> Option Ent) (i : Nat) (s : List Int) : Option Nat := match F i with
 | some (.dir _ its) => (its.find? fun q => q.1 == s).map (·.2)
 | _ => none
def fndP (F : Nat -> Option Ent) : Nat -> List (List Int) -> Option Nat
 | i, [] => some i
 | i, s :: r => match kid F i s with
  | some j => fndP F j r
  | none => none
def optI : Option Nat -> Int
 | some j => (j : Int)
 | none => -1
theorem yk7 {s : List Int} : ∀ {its : List (List Int × Nat)} {k : Nat} {q : List Int × Nat}, its[k]? = some q -> q.1 = s -> (∀ j q', j < k -> its[j]? = some q' -> q'.1 ≠ s) -> its.find? (fun q => q.1 == s) = some q
 | [], k, q, h, _, _ => by simp at h
 | a :: r, 0, q, h, e, _ => by
  cases h
  rw [List.find?_cons, show (a.1 == s) = true from beq_iff_eq.2 e]
 | a :: r, k + 1, q, h, e, hn => by
  have ha : (a.1 == s) = false := by rw [beq_eq_false_iff_ne]; exact hn 0 a (by omega) rfl
  rw [List.find?_cons, ha]
  exact yk7 (k := k) h e fun j q' hj hq => hn (j + 1) q' (by omega) hq
theorem yjJ {s : List Int} {its : List (List Int × Nat)} (h : ∀ q ∈ its, q.1 ≠ s) : its.find? (fun q => q.1 == s) = none := by
 rw [List.find?_eq_none]
 intro q hq
 simp [h q hq]
theorem ynP (q : List Int × Nat) (hq8 : B8 q.1) (s : List Int) (hs8 : B8 s) (E : Nat) (H : AH) (b : Bx H E [.string (sB s)]) (Q : Value -> AH -> Prop) (hq : ∀ H', HExt H H' -> Q (.bool (decide (q.1 = s))) H') :
  Got (pCallV (xc Tryz.prog tab) (.func (.func 76) #[] #[.pointer (some ⟨E, 0, none⟩)]) [.agg #[.string (sB q.1), .int .i64 (q.2 : Int)]] H) Q := by
 rw [yj4]
 show Got (xc Tryz.prog tab 76 [.agg #[.string (sB q.1), .int .i64 (q.2 : Int)], .pointer (some ⟨E, 0, none⟩)] H) Q
 refine yac (res := [.tmp 3]) rfl ?_
 have vA : vcells (.agg #[.string (sB q.1), .int .i64 (q.2 : Int)]) = [.string (sB q.1), .int .i64 (q.2 : Int)] := rfl
 have b1 := Bx.new H [.string (sB q.1), .int .i64 (q.2 : Int)]
 have x := yab H ⟨[.string (sB q.1), .int .i64 (q.2 : Int)], 1, false, false⟩
 simp only [zZ, zY, ofArgs, q_f, q_m, q_W, v_ld, qb_h, qb_j, ev, xbin, ibin, qb_A, qb_B, qb_C, resV, qb_D, if_true, if_false, reduceCtorEq, Nat.reduceEqDiff, Nat.reduceLT, Nat.zero_add, vA]
 generalize H.push ⟨[.string (sB q.1), .int .i64 (q.2 : Int)], 1, false, false⟩ = H1 at *
 have l1 := b1.ld 0 _ rfl
 have l2 := (b.ext x).ld 0 _ rfl
 have e := sbe hq8 hs8
 simp only [q_q, zC, fldAk, l1, l2, e]
 exact hq H1 x
theorem ynC (its : List (List Int × Nat)) (h8 : ∀ q ∈ its, B8 q.1) (hl : its.length <= 1000) (s : List Int) (hs8 : B8 s) (E : Nat) (w : Value) (H : AH) (ow : SL ITS H w its) (b : Bx H E [.string (sB s)]) (Q : Value -> AH -> Prop)
  (hq1 : ∀ (H' : AH) (k : Nat) (q : List Int × Nat), HExt H H' -> its[k]? = some q -> its.find? (fun q => q.1 == s) = some q -> Q (.int .i64 (k : Int)) H') (hq2 : ∀ H', HExt H H' -> its.find? (fun q => q.1 == s) = none -> Q (.int .i64 (-1)) H') :
  Got (xc Tryz.prog tab 75 [w, .func (.func 76) #[] #[.pointer (some ⟨E, 0, none⟩)]] H) Q := by
 refine yac (res := [.tmp 4]) rfl ?_
 have lw := SL.len_ok ow
 simp only [zZ, zY, ofArgs, q_b, q_f, q_m, q_X, ev, qb_A, qb_B, qb_C, if_true, if_false, reduceCtorEq, Nat.reduceEqDiff, Nat.reduceLT, Nat.zero_add, lw]
 generalize hg : Value.func (.func 76) #[] #[.pointer (some ⟨E, 0, none⟩)] = g
 refine ybo (fun k fr H' => HExt H H' /\ (∀ j q', j < k -> its[j]? = some q' -> q'.1 ≠ s) /\ fr = [(0, w), (1, g), (7, .int .i64 (its.length : Int)), (8, .int .i64 (k : Int))]) (fun e fr H' => e = .ret /\ HExt H H' /\ ∃ (k : Nat) (q : List Int × Nat), its[k]? = some q /\ its.find? (fun q => q.1 == s) = some q /\ fr = [(4, .int .i64 (k : Int))]) its.length ⟨HExt.refl H, fun j q' hj => by omega, rfl⟩ ?_ ?_ (fun _ _ h => by cases h.1) ?_
 ·rintro k hk fr H1 ⟨x1, hn, rfl⟩ J hJ hR
  obtain ⟨q, hqk⟩ : ∃ q, its[k]? = some q := ⟨_, List.getElem?_eq_getElem hk⟩
  have hlt : (k : Int) < (its.length : Int) := by omega
  have w3 := wrS k (by omega)
  have o1 := ow.ext x1
  have a1 := SL.at o1 .i64 (k : Int) k rfl hk
  have a2 := SL.ldk o1 k q hqk
  have hitsf : ITS.f q = [.string (sB q.1), .int .i64 (q.2 : Int)] := rfl
  rw [yep] at a1 a2
  rw [hitsf] at a2
  simp only [zZ, zY, yay, q_b, q_d, q_B, q_W, q_Z, v_ld, ev, qb_p, qb_q, xbin, ibin, if_true, if_false, reduceCtorEq, Nat.reduceEqDiff, Nat.reduceLT, hlt, decide_true, a1, a2, yd8]
  subst hg
  refine ynP q (h8 q (List.mem_of_getElem? hqk)) s hs8 E H1 (b.ext x1) _ ?_
  intro H2 x2
  by_cases e : q.1 = s
  ·have d : decide (q.1 = s) = true := decide_eq_true e
   rw [d]
   simp only [zZ, zY, q_f, q_i, q_l, q_B, ev, if_true, if_false, reduceCtorEq, Nat.reduceEqDiff, Nat.reduceLT]
   exact hR _ _ _ ⟨rfl, x1.trans x2, k, q, hqk, yk7 hqk e hn, rfl⟩
  ·have d : decide (q.1 = s) = false := decide_eq_false e
   rw [d]
   simp only [zZ, zY, q_d, q_j, q_C, ev, if_true, if_false, reduceCtorEq, Nat.reduceEqDiff, Nat.reduceLT, w3]
   refine hJ _ _ ⟨x1.trans x2, fun j q' hj hq' => ?_, rfl⟩
   by_cases hjk : j = k
   ·subst hjk
    rw [hqk] at hq'; cases hq'; exact e
   ·exact hn j q' (by omega) hq'
 ·rintro e fr H1 _ ⟨rfl, x1, k, q, h1, h2, rfl⟩
  simp only [q_i, q_l, q_m, qb_r, zB, zC, qb_A, qb_B, qb_C, resV, qb_D, if_true]
  exact hq1 H1 k q x1 h1 h2
 ·rintro fr H1 ⟨x1, hn, rfl⟩
  simp only [zZ, zY, yay, q_b, q_e, q_h, q_k, q_C, q_W, q_Z, v_ld, ev, xbin, ibin, resV, qb_D, if_true, if_false, reduceCtorEq, Nat.reduceEqDiff, Nat.reduceLT, Int.lt_irrefl, decide_false]
  refine hq2 H1 x1 (yjJ fun q hq => ?_)
  obtain ⟨j, hj⟩ := List.getElem?_of_mem hq
  exact hn j q (List.getElem?_eq_some_iff.1 hj).1 hj
set_option maxHeartbeats 8000000 in
theorem yix (R : TRep L F) (ns : List (List Int)) (hn : NoSl ns) (hne : ∀ s ∈ ns, s ≠ []) (hl : (joinP ns).length < 1000000) (hnl : ns.length <= 1000) (T S : Int) (v : Value) (H : AH) (Q : Value -> AH -> Prop) (hs : Secs H v L) (hg : GM H)
  (hq : ∀ H', HExt H H' -> Q (.int .i64 (optI (fndP F 0 ns))) H') : Got (xc Tryz.prog tab 34 [.agg #[.int .i64 T, .int .i64 S, v], .string (sB (joinP ns))] H) Q := by
 obtain ⟨⟨P, R⟩, K⟩ := R
 refine yac (res := [.tmp 4]) rfl ?_
 have vA : vcells (.agg #[.int .i64 T, .int .i64 S, v]) = [.int .i64 T, .int .i64 S, v] := rfl
 have b := Bx.new H [.int .i64 T, .int .i64 S, v]
 have x := yab H ⟨[.int .i64 T, .int .i64 S, v], 1, false, false⟩
 generalize hTT : ((.seq (.seq (.ops (⟨some 11, _, _⟩ :: _) _) _) _) : XCode) = TT
 simp only [zZ, zY, ofArgs, qb_j, ev, if_true, if_false, reduceCtorEq, Nat.reduceEqDiff, Nat.reduceLT, Nat.zero_add, vA]
 generalize H.push ⟨[.int .i64 T, .int .i64 S, v], 1, false, false⟩ = H1 at *
 subst hTT
 generalize hTT : ((.seq (.ops (⟨some 42, _, _⟩ :: _) _) _) : XCode) = TT
 simp only [zZ, zY, q_b, q_U, q_X, ev, qb_p, qb_q, if_true, if_false, Nat.reduceEqDiff, Nat.reduceLT]
 refine yiK ns hn hne hl H1 _ (hg.ext x) ?_
 intro w H2 ow x2
 have lw := SL.len_ok ow.1
 have b2 := b.ext x2
 have x12 := x.trans x2
 simp only [q_q, lw]
 refine ybo (fun k fr H' => HExt H2 H' /\ ∃ i, i < 32 /\ (∃ e, F i = some e) /\ fndP F 0 ns = fndP F i (ns.drop k) /\ fr = [(2, .pointer (some ⟨H.n, 0, none⟩)), (5, .int .i64 (i : Int)), (12, w), (13, .int .i64 (ns.length : Int)), (14, .int .i64 (k : Int))]) (fun e fr H' => e = .ret /\ HExt H2 H' /\ fndP F 0 ns = none /\ fr = [(4, .int .i64 (-1))]) ns.length ⟨HExt.refl H2, 0, by omega, (let ⟨i, h⟩ := K.root; ⟨_, h⟩), rfl, rfl⟩ ?_ ?_ (fun _ _ h => by cases h.1) ?_
 ·rintro k hk fr H3 ⟨x3, i, hi, ⟨e, he⟩, hf, rfl⟩ J hJ hR
  obtain ⟨s, hsk⟩ : ∃ s, ns[k]? = some s := ⟨_, List.getElem?_eq_getElem hk⟩
  have hsm := List.mem_of_getElem? hsk
  have hdr : ns.drop k = s :: ns.drop (k + 1) := by
   obtain ⟨h1, h2⟩ := List.getElem?_eq_some_iff.1 hsk
   rw [List.drop_eq_getElem_cons h1, h2]
  rw [hdr] at hf
  have hf' : fndP F 0 ns = match kid F i s with | some j => fndP F j (ns.drop (k + 1)) | none => none := hf
  have hlt : (k : Int) < (ns.length : Int) := by omega
  have w3 := wrS k (by omega)
  have o3 := ow.ext x3
  have a1 : pIdx 1 w (.int .i64 (k : Int)) H3 = some (ptrAt w k, H3) := yau o3.1 .i64 (k : Int) k rfl hk
  have a2 : pLd none (ptrAt w k) H3 = some (.string (sB s), H3) := yaV o3.1 k _ (by rw [ycT, List.getElem?_map, hsk]; rfl)
  have st4 := (Bx.new H3 [.string (ByteArray.mk #[])]).st 0 (by simp) (.string (sB s)) (ybp _) (ygy _)
  rw [List.set_cons_zero] at st4
  have c4 := Bx.mk H3 [.string (ByteArray.mk #[])] [.string (sB s)]
  have x4 : HExt H3 ((H3.push ⟨[.string (ByteArray.mk #[])], 1, false, false⟩).set H3.n ⟨[.string (sB s)], 1, false, false⟩) := yds _ _ _
  generalize hII : ((.ops [⟨some 41, .bin .add (.tmp 14) (.const (.int .i64 1)), none⟩, ⟨some 14, .mov (.tmp 41), none⟩] [2, 5, 12, 13, 14]) : XCode) = II
  unfold ydC
  rw [hII]
  generalize hT2 : ((.seq (.seq (.ops (⟨some 18, _, _⟩ :: _) _) _) _) : XCode) = T2
  simp only [zZ, zY, q_b, q_d, q_B, q_W, q_Z, v_ld, v_st, qb_i, ev, qb_v, xbin, ibin, if_true, if_false, Nat.reduceEqDiff, Nat.reduceLT, hlt, decide_true, a1, a2, st4]
  generalize (H3.push ⟨[.string (ByteArray.mk #[])], 1, false, false⟩).set H3.n ⟨[.string (sB s)], 1, false, false⟩ = H4 at *
  have x24 := x3.trans x4
  have b4 := b2.ext x24
  have l4 := b4.ldn 3 rfl
  have hs4 := Secs.ext (x12.trans x24) hs
  subst hT2
  generalize hT2 : ((.seq (.ops (⟨some 25, _, _⟩ :: _) _) _) : XCode) = T2
  simp only [zZ, zY, q_U, q_W, q_Z, v_ld, ev, qb_p, qb_q, xbin, ibin, if_true, if_false, Nat.reduceEqDiff, Nat.reduceLT, l4]
  refine ybS R hi T S v H4 H4 (HExt.refl H4) _ hs4 ?_
  intro H5 s5 x5 y5
  obtain ⟨i5, d5⟩ := nbyte R hi (Sl.ext x5 y5) 0 (by omega)
  rw [tb0 R hi he] at d5
  have i5' : pIdx 1 s5 (.int .i64 0) H5 = some (ptrAt s5 0, H5) := i5
  have x25 := x24.trans x5
  have l5 := (b2.ext x25).ldn 3 rfl
  cases e with
  | fil pp dt =>
   have kd1 : ((Ent.fil pp dt).kd : Int) = 1 := rfl
   rw [kd1] at d5
   have e12 : ((1 : Int) != 2) = true := rfl
   have hk0 : kid F i s = none := by unfold kid; rw [he]
   rw [hk0] at hf'
   subst hT2
   simp only [zZ, zY, q_f, q_i, q_j, q_l, q_B, q_U, q_W, q_Y, q_Z, v_ld, qb_h, ev, qb_p, qb_q, xbin, ibin, if_true, if_false, Nat.reduceEqDiff, Nat.reduceLT, i5', d5, e12]
   exact hR _ _ _ ⟨rfl, x25, hf', rfl⟩
  | dir pp its =>
   have kd2 : ((Ent.dir pp its).kd : Int) = 2 := rfl
   rw [kd2] at d5
   obtain ⟨kS, kL, kN, kA⟩ := K.its i pp its he
   have hkk : kid F i s = (its.find? fun q => q.1 == s).map (·.2) := by unfold kid; rw [he]
   subst hT2
   generalize hT2 : ((.seq (.ops (⟨some 31, _, _⟩ :: _) _) _) : XCode) = T2
   simp only [zZ, zY, q_d, q_C, q_U, q_Y, v_ld, ev, qb_p, qb_q, if_true, if_false, Nat.reduceEqDiff, Nat.reduceLT, i5', d5, bne_self_eq_false, l5]
   refine ycZ R hi (ycl he) T S v H5 _ (Secs.ext x5 hs4) ?_
   intro wc H6 oc x6
   refine yg5 R K he wc H6 _ oc.1 ?_
   intro wi H7 oi x7
   have x57 := x6.trans x7
   have x27 := x25.trans x57
   have c7 := c4.ext (x5.trans x57)
   subst hT2
   generalize hT2 : ((.seq (.seq (.ops (⟨some 34, _, _⟩ :: _) _) _) _) : XCode) = T2
   simp only [zZ, zY, q_P, q_Q, q_U, ev, qb_p, qb_q, if_true, if_false, Nat.reduceEqDiff, Nat.reduceLT, v_mkf]
   refine ynC its (fun q hq => (kA q hq).1.n8) (by omega) s (hn s hsm).1 H3.n wi H7 oi.1 c7 _ ?_ ?_
   ·intro H8 m q x8 hm hfq
    rw [hkk, hfq] at hf'
    have hqm := List.mem_of_getElem? hm
    obtain ⟨q1, q2, _, e', e1, _⟩ := kA q hqm
    have hml := (List.getElem?_eq_some_iff.1 hm).1
    have cm : ¬ ((m : Nat) : Int) < 0 := by omega
    have oi8 := oi.ext x8
    have a1 := SL.at oi8.1 .i64 (m : Int) m rfl hml
    have a3 := SL.fld oi8.1 1 (m * 2) (by omega)
    have a4 := SL.cell oi8.1 m q hm 1 _ rfl
    rw [yep] at a1 a4
    subst hT2 hII
    simp only [zZ, zY, q_d, q_j, q_C, q_W, q_Z, v_ld, qb_h, ev, xbin, ibin, if_true, if_false, Nat.reduceEqDiff, Nat.reduceLT, cm, decide_false, a1, a3, a4, w3]
    exact hJ _ _ ⟨x27.trans x8, q.2, q2, ⟨e', e1⟩, hf', rfl⟩
   ·intro H8 x8 hfq
    rw [hkk, hfq] at hf'
    have cm : ((-1 : Int) < 0) := by omega
    subst hT2
    simp only [zZ, zY, q_f, q_i, q_j, q_l, q_B, q_W, q_Z, v_ld, qb_h, ev, xbin, ibin, if_true, if_false, Nat.reduceEqDiff, Nat.reduceLT, cm, decide_true]
    exact hR _ _ _ ⟨rfl, x27.trans x8, hf', rfl⟩
 ·rintro e fr H3 _ ⟨rfl, x3, hf, rfl⟩
  rw [hf] at hq
  simp only [q_i, q_l, q_m, qb_r, zB, zC, qb_A, qb_B, qb_C, resV, qb_D, if_true]
  exact hq H3 (x12.trans x3)
 ·rintro fr H3 ⟨x3, i, hi, _, hf, rfl⟩
  rw [List.drop_length] at hf
  rw [hf] at hq
  subst hTT
  simp only [zZ, zY, ydC, q_b, q_e, q_f, q_h, q_j, q_k, q_m, q_C, q_U, q_W, q_Y, q_Z, v_ld, v_st, qb_h, qb_i, ev, qb_p, qb_q, qb_v, xbin, ibin, qb_A, qb_B, qb_C, resV, qb_D, if_true, if_false, Nat.reduceEqDiff, Nat.reduceLT, Int.lt_irrefl, decide_false]
  exact hq H3 (x12.trans x3)
end Go.Proofs.YtnjjnnfpnjjccaaGreatDoor.D
set_option linter.unusedSimpArgs false
set_option linter.unusedVariables false
namespace Go.Proofs.YtnjjnnfpnjjccaaGreatDoor.D
open Go Go.Det
variable {L : List (List Int)} {F : Nat -> Option Ent} {P : Nat -> List (Nat × Nat)}
def OkNs (ns : List (List Int)) : Prop := ∀ s ∈ ns, okName s = true /\ B8 s
theorem OkNs.nosl {ns : List (List Int)} (h : OkNs ns) : NoSl ns := fun s hs => ⟨(h s hs).2, fun hm => by
 have := (yaU (h s hs).1).2.2 47 hm
 revert this; decide⟩
theorem OkNs.ne {ns : List (List Int)} (h : OkNs ns) : ∀ s ∈ ns, s ≠ [] := fun s hs => (yaU (h s hs).1).2.1
theorem yeb : ∀ (ns : List (List Int)), OkNs ns -> (joinP ns).length <= 21 * ns.length
 | [], _ => Nat.zero_le _
 | [s], h => by
  have := (yaU (h s (by simp)).1).1
  rw [joinP]; simp; omega
 | s :: t :: r, h => by
  have h1 := (yaU (h s (by simp)).1).1
  have ih := yeb (t :: r) fun x hx => h x (by simp [List.mem_cons.1 hx])
  rw [joinP, List.length_append, List.length_cons, List.length_cons]
  omega
theorem yh3 : ∀ (ds : List (List Int)) (nm : List Int), ds ≠ [] -> joinP (ds ++ [nm]) = joinP ds ++ 47 :: nm
 | [], nm, h => absurd rfl h
 | [s], nm, _ => rfl
 | s :: t :: r, nm, _ => by
  have ih := yh3 (t :: r) nm (by simp)
  show s ++ 47 :: joinP ((t :: r) ++ [nm]) = (s ++ 47 :: joinP (t :: r)) ++ 47 :: nm
  rw [ih, List.append_assoc]; rfl
theorem yqk (ns : List (List Int)) (h : OkNs ns) (hl : ns.length <= 1000) (w : Value) (H : AH) (ow : SL STR H w ns) : xc Tryz.prog tab 103 [w, .func (.func 104) #[] #[]] H = some (.bool false, H) := by
 have pf : ∀ s ∈ ns, ∀ H, pCallV (xc Tryz.prog tab) (.func (.func 104) #[] #[]) [.string (sB s)] H = some (.bool false, H) := fun s hs H => by
  show xc Tryz.prog tab 104 [.string (sB s)] H = _
  refine ycd (yac (res := [.tmp 2]) rfl ?_)
  obtain ⟨h1, h2⟩ := h s hs
  have hn := yi1 s h2 (by have := (yaU h1).1; omega) H
  rw [h1] at hn
  simp only [zZ, zY, ofArgs, q_f, q_m, q_E, q_J, zE, q_U, ev, qb_p, qb_q, qb_A, qb_B, qb_C, resV, qb_D, if_true, if_false, reduceCtorEq, Nat.reduceEqDiff, Nat.reduceLT, and_true, hn]
 have idx : xc Tryz.prog tab 134 [w, .func (.func 104) #[] #[]] H = some (.int .i64 (-1), H) := by
  refine ycd (yac (res := [.tmp 4]) rfl ?_)
  have lw := SL.len_ok ow
  simp only [zZ, zY, ofArgs, q_b, q_f, q_m, q_X, ev, qb_A, qb_B, qb_C, if_true, if_false, reduceCtorEq, Nat.reduceEqDiff, Nat.reduceLT, Nat.zero_add, lw]
  refine yaz (fun k fr H' => H' = H /\ fr = [(0, w), (1, .func (.func 104) #[] #[]), (7, .int .i64 (ns.length : Int)), (8, .int .i64 (k : Int))]) ns.length ⟨rfl, rfl⟩ ?_ ?_
  ·rintro k hk fr H1 ⟨rfl, rfl⟩ J hJ
   obtain ⟨s, hsk⟩ : ∃ s, ns[k]? = some s := ⟨_, List.getElem?_eq_getElem hk⟩
   have hlt : (k : Int) < (ns.length : Int) := by omega
   have w3 := wrS k (by omega)
   have a1 : pIdx 1 w (.int .i64 (k : Int)) H1 = some (ptrAt w k, H1) := yau ow .i64 (k : Int) k rfl hk
   have a2 : pLd none (ptrAt w k) H1 = some (.string (sB s), H1) := yaV ow k _ (by rw [ycT, List.getElem?_map, hsk]; rfl)
   have pc := pf s (List.mem_of_getElem? hsk) H1
   simp only [zZ, zY, yaH, q_b, q_d, q_j, q_B, q_C, q_W, q_Z, v_ld, ev, qb_p, qb_q, xbin, ibin, if_true, if_false, reduceCtorEq, Nat.reduceEqDiff, Nat.reduceLT, hlt, decide_true, a1, a2, yd8, pc, w3]
   exact hJ _ _ ⟨rfl, rfl⟩
  ·rintro fr H1 ⟨rfl, rfl⟩
   simp only [zZ, zY, yaH, q_b, q_e, q_h, q_k, q_C, q_W, q_Z, v_ld, ev, xbin, ibin, resV, qb_D, if_true, if_false, reduceCtorEq, Nat.reduceEqDiff, Nat.reduceLT, and_true, Int.lt_irrefl, decide_false]
 refine ycd (yac (res := [.tmp 4]) rfl ?_)
 have c : ¬ ((-1 : Int) >= 0) := by omega
 simp only [zZ, zY, ofArgs, q_f, q_m, q_U, q_W, ev, qb_p, qb_q, xbin, ibin, qb_A, qb_B, qb_C, resV, qb_D, if_true, if_false, reduceCtorEq, Nat.reduceEqDiff, Nat.reduceLT, Nat.zero_add, and_true, idx, c, decide_false]
set_option maxHeartbeats 4000000 in
theorem ypt (ns : List (List Int)) (h0 : ns ≠ []) (h : OkNs ns) (hl : ns.length <= 8) (H : AH) (Q : Value -> AH -> Prop) (hg : GM H) (hq : ∀ H', HExt H H' -> Q (.bool true) H') : Got (xc Tryz.prog tab 72 [.string (sB (joinP ns))] H) Q := by
 refine yac (res := [.tmp 2]) rfl ?_
 have jl := yeb ns h
 have nq := sbn (yf0 ns h.nosl) yfG
 have hne : joinP ns ≠ [] := by
  cases ns with
  | nil => exact absurd rfl h0
  | cons s r =>
   have := h.ne s (by simp)
   cases r with
   | nil => exact this
   | cons t r => rw [joinP]; simp
 rw [decide_eq_false hne] at nq
 have ln := ydR (joinP ns) H
 have c1 : ((joinP ns).length : Int) <= 168 := by omega
 simp only [zZ, zY, ofArgs, q_f, q_m, q_r, q_J, zD, q_U, q_W, qb_o, ev, qb_p, qb_q, xbin, ibin, qb_A, qb_B, qb_C, if_true, if_false, reduceCtorEq, Nat.reduceEqDiff, Nat.reduceLT, sbNil, nq, ydX, ln, c1, decide_true]
 refine yiK ns h.nosl h.ne (by omega) H _ hg ?_
 intro w H1 ow x1
 have bd := yqk ns h (by omega) w H1 ow.1
 simp only [zZ, zY, q_r, q_E, zD, q_U, q_W, q_X, qb_o, ev, qb_p, qb_q, xbin, ibin, resV, qb_D, if_true, if_false, reduceCtorEq, Nat.reduceEqDiff, Nat.reduceLT, bd]
 refine yiK ns h.nosl h.ne (by omega) H1 _ (hg.ext x1) ?_
 intro w2 H2 ow2 x2
 have lw := SL.len_ok ow2.1
 have c2 : (ns.length : Int) <= 8 := by omega
 simp only [q_q, zC, if_true, lw, c2, decide_true]
 exact hq H2 (x1.trans x2)
theorem ykZ (l : List Int) (h8 : B8 l) (hl : l.length <= 100000) (n : Nat) (hn : n <= l.length) (hno : ∀ k x, n <= k -> l[k]? = some x -> x ≠ 47) (hat : n = 0 \/ l[n - 1]? = some 47) (H : AH) : xc Tryz.prog tab 73 [.string (sB l), .int .u8 47] H = some (.int .i64 ((n : Int) - 1), H) := by
 have core : xc Tryz.prog tab 105 [.string (sB l), .int .u8 47] H = some (.int .i64 ((n : Int) - 1), H) := by
  refine ycd (yac (res := [.tmp 4]) rfl ?_)
  have ln := ydR l H
  have w0 := wrI ((l.length : Int) - 1) (by omega) (by omega)
  simp only [zZ, zY, ofArgs, q_b, q_f, q_m, q_W, ev, xbin, ibin, qb_A, qb_B, qb_C, if_true, if_false, reduceCtorEq, Nat.reduceEqDiff, Nat.reduceLT, Nat.zero_add, ydX, ln, w0]
  refine yaz (fun k fr H' => H' = H /\ fr = [(0, .string (sB l)), (1, .int .u8 47), (5, .int .i64 ((l.length : Int) - 1 - (k : Int)))]) (l.length - n) ⟨rfl, by simp⟩ ?_ ?_
  ·rintro k hk fr H1 ⟨rfl, rfl⟩ J hJ
   have c1 : (l.length : Int) - 1 - (k : Int) >= 0 := by omega
   obtain ⟨x, hx⟩ : ∃ x, l[l.length - 1 - k]? = some x := ⟨_, List.getElem?_eq_getElem (by omega)⟩
   have six := yeC l h8 .i64 ((l.length : Int) - 1 - (k : Int)) (l.length - 1 - k) (by omega) x hx H1
   have e0 : (x == 47) = false := by rw [beq_eq_false_iff_ne]; exact hno _ x (by omega) hx
   have w1 : IntKind.i64.wrap ((l.length : Int) - 1 - (k : Int) - 1) = (l.length : Int) - 1 - ((k + 1 : Nat) : Int) := by rw [wrI _ (by omega) (by omega)]; omega
   simp only [zZ, zY, yaD, q_b, q_d, q_j, q_B, q_C, q_W, ev, xbin, ibin, if_true, if_false, reduceCtorEq, Nat.reduceEqDiff, Nat.reduceLT, c1, decide_true, v_six ty9, optgd, six, e0, w1]
   exact hJ _ _ ⟨rfl, rfl⟩
  ·rintro fr H1 ⟨rfl, rfl⟩
   have e1 : (l.length : Int) - 1 - ((l.length - n : Nat) : Int) = (n : Int) - 1 := by omega
   rw [e1]
   rcases Nat.eq_zero_or_pos n with h | h
   ·subst h
    have c1 : ¬ (((0 : Nat) : Int) - 1 >= 0) := by omega
    simp only [zZ, zY, yaD, q_b, q_e, q_h, q_k, q_C, q_W, ev, xbin, ibin, resV, qb_D, if_true, if_false, reduceCtorEq, Nat.reduceEqDiff, Nat.reduceLT, and_true, c1, decide_false]
    rfl
   ·have c1 : (n : Int) - 1 >= 0 := by omega
    have hx : l[n - 1]? = some 47 := hat.resolve_left (by omega)
    have six := yeC l h8 .i64 ((n : Int) - 1) (n - 1) (by omega) 47 hx H1
    have e0 : ((47 : Int) == 47) = true := rfl
    simp only [zZ, zY, yaD, q_b, q_d, q_f, q_i, q_l, q_m, q_B, q_W, ev, xbin, ibin, qb_A, qb_B, qb_C, resV, qb_D, if_true, if_false, reduceCtorEq, Nat.reduceEqDiff, Nat.reduceLT, and_true, c1, decide_true, v_six ty9, optgd, six, e0]
 refine ycd (yac (res := [.tmp 4]) rfl ?_)
 simp only [zZ, zY, ofArgs, q_f, q_m, q_U, ev, qb_p, qb_q, qb_A, qb_B, qb_C, resV, qb_D, if_true, if_false, reduceCtorEq, Nat.reduceEqDiff, Nat.reduceLT, Nat.zero_add, and_true, core]
end Go.Proofs.YtnjjnnfpnjjccaaGreatDoor.D
set_option linter.unusedSimpArgs false
set_option linter.unusedVariables false
namespace Go.Proofs.YtnjjnnfpnjjccaaGreatDoor.D
open Go Go.Det
variable {L : List (List Int)} {F : Nat -> Option Ent} {P : Nat -> List (Nat × Nat)}
structure Geo (L : List (List Int)) (T S : Int) : Prop where
 t1 : 1 <= T
 t2 : T <= 20
 s1 : 1 <= S
 s2 : S <= 12
 ll : (L.length : Int) = T * S
theorem fcheck (R : TRep L F) {T S : Int} (g : Geo L T S) (v : Value) (H : AH) (Q : Value -> AH -> Prop) (hs : Secs H v L) (hq : ∀ H', HExt H H' -> Q (.int .i64 0) H') : Got (xc Tryz.prog tab 20 [.agg #[.int .i64 T, .int .i64 S, v]] H) Q :=
 ylP R T S v H Q hs g.t1 g.t2 g.s1 g.s2 g.ll hq
set_option maxHeartbeats 8000000 in
theorem ylO (R : TRep L F) (ds : List (List Int)) (nm : List Int) (hds : OkNs ds) (hnm : okName nm = true) (hn8 : B8 nm) (hl : ds.length <= 7) (i p : Nat) (its : List (List Int × Nat)) (hf : fndP F 0 ds = some i) (hi : F i = some (.dir p its)) {T S : Int} (g : Geo L T S) (v : Value) (H : AH) (Q : Value -> AH -> Prop) (hs : Secs H v L) (hg : GM H)
  (hq : ∀ H', HExt H H' -> Q (.tuple [.int .i64 (i : Int), .string (sB nm), .int .i64 0].toArray) H') : Got (xc Tryz.prog tab 33 [.agg #[.int .i64 T, .int .i64 S, v], .string (sB (joinP (ds ++ [nm])))] H) Q := by
 refine yac (res := [.tmp 4, .tmp 5, .tmp 6]) rfl ?_
 have hns : OkNs (ds ++ [nm]) := fun s hs => by
  rcases List.mem_append.1 hs with h | h
  ·exact hds s h
  ·rw [List.mem_singleton.1 h]; exact ⟨hnm, hn8⟩
 have vA : vcells (.agg #[.int .i64 T, .int .i64 S, v]) = [.int .i64 T, .int .i64 S, v] := rfl
 have b := Bx.new H [.int .i64 T, .int .i64 S, v]
 have x := yab H ⟨[.int .i64 T, .int .i64 S, v], 1, false, false⟩
 generalize hTT : ((.seq (.seq (.ops (⟨some 12, _, _⟩ :: _) _) _) _) : XCode) = TT
 simp only [zZ, zY, ofArgs, qb_j, ev, if_true, if_false, reduceCtorEq, Nat.reduceEqDiff, Nat.reduceLT, Nat.zero_add, vA]
 generalize H.push ⟨[.int .i64 T, .int .i64 S, v], 1, false, false⟩ = H1 at *
 have ldn := b.ldn 3 rfl
 have hs1 := Secs.ext x hs
 subst hTT
 generalize hTT : ((.seq (.seq (.ops (⟨some 17, _, _⟩ :: _) _) _) _) : XCode) = TT
 simp only [zZ, zY, q_U, q_W, v_ld, ev, qb_p, qb_q, xbin, ibin, if_true, if_false, Nat.reduceEqDiff, Nat.reduceLT, ldn]
 refine fcheck R g v H1 _ hs1 ?_
 intro H2 x2
 subst hTT
 generalize hTT : ((.seq (.ops (⟨some 20, _, _⟩ :: _) _) _) : XCode) = TT
 simp only [zZ, zY, q_d, q_C, q_J, q_U, ev, qb_p, qb_q, if_true, if_false, Nat.reduceEqDiff, Nat.reduceLT, bne_self_eq_false]
 refine ypt (ds ++ [nm]) (by simp) hns (by simp; omega) H2 _ (hg.ext (x.trans x2)) ?_
 intro H3 x3
 have x23 := x2.trans x3
 have x13 := x.trans x23
 have b3 := b.ext x23
 have l3 := b3.ldn 3 rfl
 have jl := yeb (ds ++ [nm]) hns
 have hl8 : (ds ++ [nm]).length <= 8 := by simp; omega
 have j8 := yf0 (ds ++ [nm]) hns.nosl
 have hno47 : ∀ x ∈ nm, x ≠ 47 := fun x hx e => (hns.nosl nm (by simp)).2 (e ▸ hx)
 have tl : ∀ H4, HExt H3 H4 -> Run Tryz.prog tab ((.seq (.seq (.ops [⟨some 35, .mov (.tmp 11), none⟩, ⟨some 36, .bin .lss (.tmp 35) (.const (.int .i64 0)), none⟩] [2, 9, 11, 36]) (.cond (.tmp 36) (.seq (.ops [⟨some 4, .mov (.const (.int .i64 0)), none⟩, ⟨some 5, .mov (.const (.string (ByteArray.mk #[]))), none⟩, ⟨some 6, .mov (.const (.int .i64 4)), none⟩] [4, 5, 6]) .ret) .skip)) (.seq (.seq (.ops [⟨some 37, .ld (some 3) (.tmp 2), none⟩, ⟨some 38, .mov (.tmp 11), none⟩, ⟨some 39, .call 37 [.tmp 37, .tmp 38], none⟩, ⟨some 40, .idxA 1 (.tmp 39) (.const (.int .i64 0)), none⟩, ⟨some 41, .ld none (.tmp 40), none⟩, ⟨some 42, .bin .neq (.tmp 41) (.const (.int .u8 2)), none⟩] [9, 11, 42]) (.cond (.tmp 42) (.seq (.ops [⟨some 4, .mov (.const (.int .i64 0)), none⟩, ⟨some 5, .mov (.const (.string (ByteArray.mk #[]))), none⟩, ⟨some 6, .mov (.const (.int .i64 8)), none⟩] [4, 5, 6]) .ret) .skip)) (.seq (.ops [⟨some 43, .mov (.tmp 11), none⟩, ⟨some 44, .mov (.tmp 9), none⟩, ⟨some 4, .mov (.tmp 43), none⟩, ⟨some 5, .mov (.tmp 44), none⟩, ⟨some 6, .mov (.const (.int .i64 0)), none⟩] [4, 5, 6]) .ret))) : XCode) [(2, .pointer (some ⟨H.n, 0, none⟩)), (9, .string (sB nm)), (11, .int .i64 (i : Int))] H4 (retQ [.tmp 4, .tmp 5, .tmp 6] Q) := by
  intro H4 x4
  have b4 := b3.ext x4
  have l4 := b4.ldn 3 rfl
  have cn : ¬ ((i : Int) < 0) := by omega
  have hi32 : i < 32 := R.ok.bd _ _ hi
  obtain ⟨P, R'⟩ := R.ex
  have hs4 := Secs.ext (x13.trans x4) hs
  generalize hTT : ((.seq (.seq (.ops (⟨some 37, _, _⟩ :: _) _) _) _) : XCode) = TT
  simp only [zZ, zY, q_d, q_C, q_W, ev, xbin, ibin, if_true, if_false, Nat.reduceEqDiff, Nat.reduceLT, cn, decide_false]
  subst hTT
  generalize hTT : ((.seq (.ops (⟨some 43, _, _⟩ :: _) _) _) : XCode) = TT
  simp only [zZ, zY, q_U, q_W, q_Z, v_ld, ev, qb_p, qb_q, xbin, ibin, if_true, if_false, Nat.reduceEqDiff, Nat.reduceLT, l4]
  refine ybS R' hi32 T S v H4 H4 (HExt.refl H4) _ hs4 ?_
  intro H5 s5 x5 y5
  obtain ⟨i5, d5⟩ := nbyte R' hi32 (Sl.ext x5 y5) 0 (by omega)
  rw [tb0 R' hi32 hi] at d5
  have kd2 : ((Ent.dir p its).kd : Int) = 2 := rfl
  rw [kd2] at d5
  have i5' : pIdx 1 s5 (.int .i64 0) H5 = some (ptrAt s5 0, H5) := i5
  subst hTT
  simp only [zZ, zY, q_d, q_f, q_m, q_C, ev, qb_A, qb_B, qb_C, resV, qb_D, if_true, if_false, Nat.reduceEqDiff, Nat.reduceLT, i5', d5, bne_self_eq_false]
  exact hq H5 ((x13.trans x4).trans x5)
 by_cases hd0 : ds = []
 ·subst hd0
  have hi0 : i = 0 := by
   have : some 0 = some i := hf
   exact (Option.some.inj this).symm
  have e1 : joinP ([] ++ [nm]) = nm := rfl
  rw [e1]
  have lb := ykZ nm hn8 (by have := (yaU hnm).1; omega) 0 (Nat.zero_le _) (fun k x _ hx => hno47 x (List.mem_of_getElem? hx)) (.inl rfl) H3
  have e2 : ((0 : Nat) : Int) - 1 = -1 := rfl
  rw [e2] at lb
  have c1 : ¬ ((-1 : Int) >= 0) := by omega
  subst hTT
  generalize hTT : ((.seq (.seq (.ops [⟨some 35, .mov (.tmp 11), none⟩, ⟨some 36, .bin .lss (.tmp 35) (.const (.int .i64 0)), none⟩] [2, 9, 11, 36]) (.cond (.tmp 36) (.seq (.ops [⟨some 4, .mov (.const (.int .i64 0)), none⟩, ⟨some 5, .mov (.const (.string (ByteArray.mk #[]))), none⟩, ⟨some 6, .mov (.const (.int .i64 4)), none⟩] [4, 5, 6]) .ret) .skip)) (.seq (.seq (.ops [⟨some 37, .ld (some 3) (.tmp 2), none⟩, ⟨some 38, .mov (.tmp 11), none⟩, ⟨some 39, .call 37 [.tmp 37, .tmp 38], none⟩, ⟨some 40, .idxA 1 (.tmp 39) (.const (.int .i64 0)), none⟩, ⟨some 41, .ld none (.tmp 40), none⟩, ⟨some 42, .bin .neq (.tmp 41) (.const (.int .u8 2)), none⟩] [9, 11, 42]) (.cond (.tmp 42) (.seq (.ops [⟨some 4, .mov (.const (.int .i64 0)), none⟩, ⟨some 5, .mov (.const (.string (ByteArray.mk #[]))), none⟩, ⟨some 6, .mov (.const (.int .i64 8)), none⟩] [4, 5, 6]) .ret) .skip)) (.seq (.ops [⟨some 43, .mov (.tmp 11), none⟩, ⟨some 44, .mov (.tmp 9), none⟩, ⟨some 4, .mov (.tmp 43), none⟩, ⟨some 5, .mov (.tmp 44), none⟩, ⟨some 6, .mov (.const (.int .i64 0)), none⟩] [4, 5, 6]) .ret))) : XCode) = TT at tl ⊢
  simp only [zZ, zY, q_d, q_C, q_E, zE, q_U, q_W, v_ld, ev, qb_p, qb_q, xbin, ibin, if_true, if_false, Nat.reduceEqDiff, Nat.reduceLT, lb, c1, decide_false, l3, sbNil]
  refine yix R [] (fun s h => by simp at h) (fun s h => by simp at h) (by decide) (by simp) T S v H3 _ (Secs.ext x13 hs) (hg.ext x13) ?_
  intro H4 x4
  rw [hf]
  exact tl H4 x4
 ·have e1 := yh3 ds nm hd0
  rw [e1] at j8 jl ⊢
  rw [List.length_append, List.length_cons] at jl
  have lb := ykZ (joinP ds ++ 47 :: nm) j8 (by rw [List.length_append, List.length_cons]; omega) ((joinP ds).length + 1) (by rw [List.length_append, List.length_cons]; omega) (fun k x hk hx => by
   rw [List.getElem?_append_right (by omega)] at hx
   obtain ⟨j, hj⟩ : ∃ j, k - (joinP ds).length = j + 1 := ⟨k - (joinP ds).length - 1, by omega⟩
   rw [hj, List.getElem?_cons_succ] at hx
   exact hno47 x (List.mem_of_getElem? hx)) (.inr (by rw [Nat.add_sub_cancel, List.getElem?_append_right (Nat.le_refl _), Nat.sub_self]; rfl)) H3
  have e2 : (((joinP ds).length + 1 : Nat) : Int) - 1 = ((joinP ds).length : Int) := by omega
  rw [e2] at lb
  have c1 : ((joinP ds).length : Int) >= 0 := by omega
  have w1 : IntKind.i64.wrap (((joinP ds).length : Int) + 1) = (((joinP ds).length + 1 : Nat) : Int) := wrS _ (by omega)
  have ss1 := yl7 (joinP ds ++ 47 :: nm) (joinP ds).length ((joinP ds).length : Int) .i64 H3 rfl (by simp)
  have ss2 := yoN (joinP ds ++ 47 :: nm) ((joinP ds).length + 1) (((joinP ds).length + 1 : Nat) : Int) .i64 H3 rfl (by simp)
  rw [List.take_left' rfl] at ss1
  rw [show joinP ds ++ 47 :: nm = (joinP ds ++ [47]) ++ nm by simp, List.drop_left' (by simp), show (joinP ds ++ [47]) ++ nm = joinP ds ++ 47 :: nm by simp] at ss2
  subst hTT
  generalize hTT : ((.seq (.seq (.ops [⟨some 35, .mov (.tmp 11), none⟩, ⟨some 36, .bin .lss (.tmp 35) (.const (.int .i64 0)), none⟩] [2, 9, 11, 36]) (.cond (.tmp 36) (.seq (.ops [⟨some 4, .mov (.const (.int .i64 0)), none⟩, ⟨some 5, .mov (.const (.string (ByteArray.mk #[]))), none⟩, ⟨some 6, .mov (.const (.int .i64 4)), none⟩] [4, 5, 6]) .ret) .skip)) (.seq (.seq (.ops [⟨some 37, .ld (some 3) (.tmp 2), none⟩, ⟨some 38, .mov (.tmp 11), none⟩, ⟨some 39, .call 37 [.tmp 37, .tmp 38], none⟩, ⟨some 40, .idxA 1 (.tmp 39) (.const (.int .i64 0)), none⟩, ⟨some 41, .ld none (.tmp 40), none⟩, ⟨some 42, .bin .neq (.tmp 41) (.const (.int .u8 2)), none⟩] [9, 11, 42]) (.cond (.tmp 42) (.seq (.ops [⟨some 4, .mov (.const (.int .i64 0)), none⟩, ⟨some 5, .mov (.const (.string (ByteArray.mk #[]))), none⟩, ⟨some 6, .mov (.const (.int .i64 8)), none⟩] [4, 5, 6]) .ret) .skip)) (.seq (.ops [⟨some 43, .mov (.tmp 11), none⟩, ⟨some 44, .mov (.tmp 9), none⟩, ⟨some 4, .mov (.tmp 43), none⟩, ⟨some 5, .mov (.tmp 44), none⟩, ⟨some 6, .mov (.const (.int .i64 0)), none⟩] [4, 5, 6]) .ret))) : XCode) = TT at tl ⊢
  generalize hT2 : ((.seq (.ops (⟨some 32, _, _⟩ :: _) _) _) : XCode) = T2
  simp only [zZ, zY, q_d, q_B, q_C, q_E, zE, q_U, q_W, ev, qb_p, qb_q, xbin, ibin, if_true, if_false, Nat.reduceEqDiff, Nat.reduceLT, lb, c1, decide_true]
  refine yaL _ _ _ _ _ rfl ?_
  simp only [zZ, zY, q_S, q_T, q_W, ev, xbin, ibin, if_true, if_false, Nat.reduceEqDiff, Nat.reduceLT, v_ssl ty9, optgd, Option.map_none, w1, ss1, ss2]
  subst hT2
  simp only [zZ, zY, q_U, v_ld, ev, qb_p, qb_q, if_true, if_false, Nat.reduceEqDiff, Nat.reduceLT, l3]
  refine yix R ds hds.nosl hds.ne (by omega) (by omega) T S v H3 _ (Secs.ext x13 hs) (hg.ext x13) ?_
  intro H4 x4
  rw [hf]
  exact tl H4 x4
end Go.Proofs.YtnjjnnfpnjjccaaGreatDoor.D
set_option linter.unusedSimpArgs false
set_option linter.unusedVariables false
namespace Go.Proofs.YtnjjnnfpnjjccaaGreatDoor.D
open Go Go.Det
variable {L : List (List Int)} {F : Nat -> Option Ent} {P : Nat -> List (Nat × Nat)}
def belowP (F : Nat -> Option Ent) : Nat -> Nat -> List Int -> List (List Int × List Int)
 | 0, _, _ => []
 | n + 1, i, path => match F i with
  | some (.dir _ its) => its.flatMap fun q => match F q.2 with
   | some (.dir _ _) => belowP F n q.2 (path ++ q.1 ++ [47])
   | some (.fil _ dt) => [(path ++ q.1, dt)]
   | none => []
  | _ => []
theorem ygC {u v w : Value} {A B C : AH} (h : Stp u A v B) (k : Stp v B w C) : Stp u A w C := by
 refine ⟨Nat.le_trans h.n k.n, fun b hb hn => ?_, fun b hb => ?_⟩
 ·refine (k.get b (Nat.lt_of_lt_of_le hb h.n) fun hv => ?_).trans (h.get b hb hn)
  rcases h.new b hv with h1 | h1
  ·exact hn h1
  ·omega
 ·rcases k.new b hb with h1 | h1
  ·exact h.new b h1
  ·exact .inr (Nat.le_trans h.n h1)
theorem OutE.pushS {n0 : Nat} {H : AH} {v : Value} {l : List FE} (h : OutE n0 H v l) (hn : n0 <= H.n) (p : FE) (hb : Byts H p.w p.dt) (hw : ∀ b, inB p.w b -> ¬ inB v b) (hl : l.length <= 1000000) {Q : Value -> AH -> Prop}
  (hq : ∀ v' H', OutE n0 H' v' (l ++ [p]) -> Stp v H v' H' -> Q v' H') :
  Got (xapp (H.push ⟨[.string (sB p.nm), p.w], 2, false, false⟩) 2 40 v (.slice (some ⟨H.n, 0, none⟩) 1 1)) Q := by
 obtain ⟨o1, o2⟩ := yan hb
 refine OL.push [p] h.own hn (by show ([.string (sB p.nm), p.w] : List Value).all one = true; simp only [List.all_cons, List.all_nil, o1, ybp]; rfl) 40 (by decide) (by simp; omega) ?_
 intro v' H' o k same fresh hnn
 have keep : ∀ q w, Byts H q w -> (∀ b, inB q b -> ¬ inB v b) -> Byts H' q w := fun q w hq hd => Sl.same hq hnn fun b hb => same b (hq.lt hb) (hd b hb)
 have dis' : ∀ q w, Byts H q w -> (∀ b, inB q b -> ¬ inB v b) -> ∀ b, inB q b -> ¬ inB v' b := fun q w hq hd b hb hv => by
  rcases fresh b hv with h1 | h1
  ·exact hd b hb h1
  ·have := hq.lt hb; omega
 refine hq v' H' ⟨o, fun q hq => ?_, fun q hq => ?_⟩ ⟨hnn, same, fresh⟩
 ·rcases List.mem_append.1 hq with h1 | h1
  ·exact keep _ _ (h.byt q h1) (h.dis q h1)
  ·rw [List.mem_singleton.1 h1]; exact keep _ _ hb hw
 ·rcases List.mem_append.1 hq with h1 | h1
  ·exact dis' _ _ (h.byt q h1) (h.dis q h1)
  ·rw [List.mem_singleton.1 h1]; exact dis' _ _ hb hw
theorem yov : ByteArray.mk #[47] = sB [47] := rfl
theorem yfH {a b : List Int} (h : B8 a) (k : B8 b) : B8 (a ++ b) := fun x hx => (List.mem_append.1 hx).elim (h x) (k x)
theorem b8_47 : B8 [47] := fun b hb => by rw [List.mem_singleton.1 hb]; omega
theorem ykA (a b : List Int) (h : a.length + b.length <= 1000000000) : sbin .add (sB a) (sB b) = some (.string (sB (a ++ b))) := ylS a b h
def belowQ (F : Nat -> Option Ent) (n : Nat) (path : List Int) (q : List Int × Nat) : List (List Int × List Int) := match F q.2 with
 | some (.dir _ _) => belowP F n q.2 (path ++ q.1 ++ [47])
 | some (.fil _ dt) => [(path ++ q.1, dt)]
 | none => []
theorem yg7 (F : Nat -> Option Ent) (n i : Nat) (path : List Int) {p : Nat} {its : List (List Int × Nat)} (h : F i = some (.dir p its)) : belowP F (n + 1) i path = its.flatMap (belowQ F n path) := by
 simp only [belowP, h]
 rfl
theorem ylI (s : ByteArray) : veq (.string s) (.string s) = true := by simp [veq, veq1]
set_option maxHeartbeats 16000000 in
theorem yn4 (R : FRep L (GT F P)) (K : TOk F) (T S : Int) (v : Value) (H0 : AH) (hsv : Secs H0 v L) (d : Nat -> Nat) (hd : ∀ i p its, F i = some (.dir p its) -> ∀ q ∈ its, d q.2 = d i + 1 /\ d q.2 <= 8) :
  ∀ (n i p : Nat) (its : List (List Int × Nat)) (path : List Int) (out : Value) (l : List FE) (H : AH) (Q : Value -> AH -> Prop), d i + n = 9 -> d i <= 8 -> i < 32 -> F i = some (.dir p its) -> HExt H0 H -> OutE H0.n H out l -> B8 path -> path.length <= 21 * d i -> l.length + (belowP F n i path).length <= 100000 ->
  (∀ H' out' l', OutE H0.n H' out' (l ++ l') -> l'.map FE.told = belowP F n i path -> (∀ p ∈ l', B8 p.nm /\ B8 p.dt) -> Stp out H out' H' -> Q out' H') ->
  Got (xc Tryz.prog tab 48 [.agg #[.int .i64 T, .int .i64 S, v], .int .i64 (i : Int), .string (sB path), out] H) Q := by
 intro n
 induction n with
 | zero =>
  intro i p its path out l H Q hn h8
  omega
 | succ n ih =>
  intro i p its path out l H Q hn h9 hi hF x0 ho hp8 hpl hll hq
  obtain ⟨kS, kL, kN, kA⟩ := K.its i p its hF
  rw [yg7 F n i path hF] at hll hq
  refine yac (res := [.tmp 8]) rfl ?_
  have vA : vcells (.agg #[.int .i64 T, .int .i64 S, v]) = [.int .i64 T, .int .i64 S, v] := rfl
  have b := Bx.new H [.int .i64 T, .int .i64 S, v]
  have x := yab H ⟨[.int .i64 T, .int .i64 S, v], 1, false, false⟩
  have hHn : (H.push ⟨[.int .i64 T, .int .i64 S, v], 1, false, false⟩).n = H.n + 1 := rfl
  generalize hTT : ((.seq (.ops (⟨some 14, _, _⟩ :: _) _) _) : XCode) = TT
  simp only [zZ, zY, ofArgs, qb_j, ev, if_true, if_false, reduceCtorEq, Nat.reduceEqDiff, Nat.reduceLT, Nat.zero_add, Nat.reduceAdd, vA]
  generalize H.push ⟨[.int .i64 T, .int .i64 S, v], 1, false, false⟩ = H1 at *
  have ldn := b.ldn 3 rfl
  have hout : ∀ B, inB out B -> B < H.n := fun B h1 => ho.own.1.lt h1
  subst hTT
  generalize hTT : ((.seq (.seq (.ops (⟨some 20, _, _⟩ :: _) _) _) _) : XCode) = TT
  simp only [zZ, zY, q_U, q_Y, v_ld, ev, qb_p, qb_q, if_true, if_false, Nat.reduceEqDiff, Nat.reduceLT, ldn]
  refine ycZ R hi (ycl hF) T S v H1 _ (Secs.ext (x0.trans x) hsv) ?_
  intro w H2 ow x2
  refine yg5 R K hF w H2 _ ow.1 ?_
  intro wi H3 oi x3
  have x13 := x2.trans x3
  have lw := SL.len_ok oi.1
  have b3 := b.ext x13
  have hge : H1.n <= H2.n := x2.1
  have h23 : H2.n <= H3.n := x3.1
  subst hTT
  generalize hTT : ((.seq (.ops (⟨some 56, _, _⟩ :: _) _) _) : XCode) = TT
  simp only [zZ, zY, q_b, q_P, q_Q, q_X, ev, if_true, if_false, Nat.reduceEqDiff, Nat.reduceLT, lw]
  have x03 := x0.trans (x.trans x13)
  have o3 : OutE H0.n H3 out l := ho.ext (x.trans x13)
  refine yaz (fun k fr H' => ∃ ok lk, OutE H0.n H' ok (l ++ lk) /\ lk.map FE.told = (its.take k).flatMap (belowQ F n path) /\ (∀ p ∈ lk, B8 p.nm /\ B8 p.dt) /\ Stp out H3 ok H' /\ fr = [(2, .string (sB path)), (3, ok), (4, .pointer (some ⟨H.n, 0, none⟩)), (20, wi), (21, .int .i64 (its.length : Int)), (22, .int .i64 (k : Int))]) its.length ⟨out, [], by simpa using o3, rfl, fun p h => by simp at h, ybh out (HExt.refl H3), rfl⟩ ?_ ?_
  ·rintro k hk fr H4 ⟨ok, lk, o4, hlk, hl8, st4, rfl⟩ J hJ
   obtain ⟨q, hqk⟩ : ∃ q, its[k]? = some q := ⟨_, List.getElem?_eq_getElem hk⟩
   have hqm := List.mem_of_getElem? hqk
   obtain ⟨q1, q2, q3, e, e1, e2⟩ := kA q hqm
   have hql := q1.len.1
   have hdq := hd i p its hF q hqm
   have hlt : (k : Int) < (its.length : Int) := by omega
   have w3 := wrS k (by omega)
   have hok : ∀ B, inB ok B -> B < H.n \/ H3.n <= B := fun B h1 => by
    rcases st4.new B h1 with h | h
    ·exact .inl (hout B h)
    ·exact .inr h
   have oi4 : OL ITS H2.n H4 wi its := Own.same oi st4.n fun B hB => st4.get B (oi.1.lt hB) fun h => by have h1 := hout B h; have h2 := Own.geB oi hB; have := x.1; omega
   have hwiok : ∀ B, inB wi B -> ¬ inB ok B := fun B h1 h2 => by
    have h3 := Own.geB oi h1; have h4 := oi.1.lt h1; have := x.1
    rcases hok B h2 with h | h <;> omega
   have a1 := SL.at oi4.1 .i64 (k : Int) k rfl hk
   have a2 := SL.ldk oi4.1 k q hqk
   have hitsf : ITS.f q = [.string (sB q.1), .int .i64 (q.2 : Int)] := rfl
   rw [yep] at a1 a2
   rw [hitsf] at a2
   have b4 := b3.same st4.n (st4.get H.n b3.2 fun h => by have := hout _ h; omega)
   have x04 : HExt H0 H4 := Keep.trans (n0 := H0.n) x03 (st4.keep o3.own x03.1)
   have hall : ([.string (sB q.1), .int .i64 (q.2 : Int)] : List Value).all one = true := rfl
   have st5 := (Bx.new H4 [.string (ByteArray.mk #[]), .int .i64 0]).stn 2 [.string (sB q.1), .int .i64 (q.2 : Int)] rfl rfl hall
   have c5 := Bx.mk H4 [.string (ByteArray.mk #[]), .int .i64 0] [.string (sB q.1), .int .i64 (q.2 : Int)]
   have x5 : HExt H4 ((H4.push ⟨[.string (ByteArray.mk #[]), .int .i64 0], 1, false, false⟩).set H4.n ⟨[.string (sB q.1), .int .i64 (q.2 : Int)], 1, false, false⟩) := yds _ _ _
   have step : (its.take (k + 1)).flatMap (belowQ F n path) = (its.take k).flatMap (belowQ F n path) ++ belowQ F n path q := by
    rw [yal _ _ _ hqk, List.flatMap_append, List.flatMap_singleton]
   have hlen : ((its.take (k + 1)).flatMap (belowQ F n path)).length <= (its.flatMap (belowQ F n path)).length := by
    have : its.flatMap (belowQ F n path) = (its.take (k + 1)).flatMap (belowQ F n path) ++ (its.drop (k + 1)).flatMap (belowQ F n path) := by rw [<- List.flatMap_append, List.take_append_drop]
    rw [this, List.length_append]; omega
   rw [step, List.length_append, <- hlk, List.length_map] at hlen
   generalize hII : ((.ops [⟨some 55, .bin .add (.tmp 22) (.const (.int .i64 1)), none⟩, ⟨some 22, .mov (.tmp 55), none⟩] [2, 3, 4, 20, 21, 22]) : XCode) = II
   unfold ydi
   rw [hII]
   generalize hT2 : ((.seq (.ops (⟨some 26, _, _⟩ :: _) _) _) : XCode) = T2
   simp only [zZ, zY, q_b, q_d, q_B, q_W, q_Z, v_ld, v_st, qb_i, ev, qb_v, xbin, ibin, if_true, if_false, Nat.reduceEqDiff, Nat.reduceLT, hlt, decide_true, a1, a2, st5]
   generalize (H4.push ⟨[.string (ByteArray.mk #[]), .int .i64 0], 1, false, false⟩).set H4.n ⟨[.string (sB q.1), .int .i64 (q.2 : Int)], 1, false, false⟩ = H5 at *
   have b5 := b4.ext x5
   have l5 := b5.ldn 3 rfl
   have n5 := c5.ld 1 _ rfl
   have x05 := x04.trans x5
   subst hT2
   generalize hT2 : ((.cond (.tmp 32) _ _) : XCode) = T2
   simp only [zZ, zY, q_U, q_W, q_Z, v_ld, qb_h, ev, qb_p, qb_q, xbin, ibin, if_true, if_false, Nat.reduceEqDiff, Nat.reduceLT, fldAk, n5, l5]
   refine ybS R q2 T S v H0 H5 x05 _ hsv ?_
   intro H6 s6 x6 y6
   have z6 : Byts H6 s6 (nod L q.2) := Sl.ext (x05.trans x6) y6
   obtain ⟨i6, d6⟩ := nbyte R q2 z6 0 (by omega)
   rw [tb0 R q2 e1] at d6
   have i6' : pIdx 1 s6 (.int .i64 0) H6 = some (ptrAt s6 0, H6) := i6
   have c6 := c5.ext x6
   have n6 := c6.ld 1 _ rfl
   have m6 := c6.ld 0 _ rfl
   have b6 := b5.ext x6
   have l6 := b6.ldn 3 rfl
   have x46 := x5.trans x6
   have o6 : OutE H0.n H6 ok (l ++ lk) := o4.ext x46
   have st6 : Stp out H3 ok H6 := ygC st4 (ybh ok x46)
   have x06 := x05.trans x6
   have sa := ykA path q.1 (by omega)
   cases e with
   | fil pp dt =>
    have kd1 : ((Ent.fil pp dt).kd : Int) = 1 := rfl
    rw [kd1] at d6
    have e12 : ((1 : Int) == 2) = false := rfl
    have hbq : belowQ F n path q = [(path ++ q.1, dt)] := by unfold belowQ; rw [e1]
    rw [hbq, List.length_singleton] at hlen
    obtain ⟨okd, _⟩ := R.nod q.2 _ q2 (ycl e1)
    subst hT2
    simp only [q_q, q_C, ev, qb_r, zC, if_true, if_false, Nat.reduceEqDiff, i6', d6, e12]
    refine ybQ _ _ _ _ _ ?_
    simp only [zZ, zY, q_j, q_U, q_W, v_ld, qb_a, qb_h, ev, qb_p, qb_q, xbin, ibin, if_true, if_false, reduceCtorEq, Nat.reduceEqDiff, Nat.reduceLT, Nat.zero_add, Nat.reduceAdd, and_true, qb_E, qb_F, hs0, hs1, hs2, hs3, qb_G, qb_H, qb_I, qb_J, qb_K, qb_L, qb_M, fldAk, m6, n6, l6, sa]
    refine ycZ R q2 (ycl e1) T S v H6 _ (Secs.ext x06 hsv) ?_
    intro wc H7 oc x7
    have b7 := b6.ext x7
    have l7 := b7.ldn 3 rfl
    have c7 := c6.ext x7
    have n7 := c7.ld 1 _ rfl
    have m7 := c7.ld 0 _ rfl
    obtain ⟨o1, o2⟩ := yan oc.1
    have hall2 : ([.string (sB (path ++ q.1)), wc] : List Value).all one = true := by simp only [List.all_cons, List.all_nil, o1, ybp]; rfl
    have o7 := o6.ext x7
    have st7 : Stp out H3 ok H7 := ygC st6 (ybh ok x7)
    simp only [q_q, ev, qb_r, zB, zC, if_true, if_false, Nat.reduceEqDiff, Nat.reduceLT, Nat.zero_add, Nat.reduceAdd, vb, vbs, qb_X, qb_Y, qb_Z, ybp, ygy, o1, o2, eq_self, List.length_cons, List.length_nil, List.set_cons_zero, List.set_cons_succ, List.map_cons, List.map_nil, Nat.zero_mul, rep_1]
    rw [ycY (n := 2) hall2 rfl rfl]
    have hwv : ∀ b, inB wc b -> ¬ inB ok b := fun c hc hv => by
     have h1 : H6.n <= c := Own.geB oc hc
     have h2 := o6.own.1.lt hv
     omega
    simp only [q_q, zC]
    refine OutE.pushS o7 (x06.trans x7).1 ⟨path ++ q.1, wc, dt⟩ oc.1 hwv (by rw [List.length_append]; omega) ?_
    intro ok' H8 o8 s8
    have hE6 : ∀ B, H4.n <= B -> B < H7.n -> H8.get B = H7.get B := fun B h1 h2 => s8.get B h2 fun h => by have := o4.own.1.lt h; omega
    subst hII
    simp only [zZ, zY, q_W, ev, xbin, ibin, if_true, if_false, Nat.reduceEqDiff, Nat.reduceLT, true_and, m7, ylI, w3]
    refine hJ _ _ ⟨ok', lk ++ [⟨path ++ q.1, wc, dt⟩], by rw [<- List.append_assoc]; exact o8, ?_, fun p hp => ?_, ygC st7 s8, rfl⟩
    ·rw [step, List.map_append, hlk, hbq]; rfl
    ·rcases List.mem_append.1 hp with h | h
     ·exact hl8 p h
     ·rw [List.mem_singleton.1 h]
      exact ⟨yfH hp8 q1.n8, okd.d8⟩
   | dir pp it2 =>
    have kd2 : ((Ent.dir pp it2).kd : Int) = 2 := rfl
    rw [kd2] at d6
    have e22 : ((2 : Int) == 2) = true := rfl
    have hbq : belowQ F n path q = belowP F n q.2 (path ++ q.1 ++ [47]) := by unfold belowQ; rw [e1]
    have sa2 := ykA (path ++ q.1) [47] (by rw [List.length_append]; simp; omega)
    subst hT2
    simp only [zZ, zY, q_j, q_B, q_U, q_W, v_ld, qb_h, ev, qb_p, qb_q, xbin, ibin, if_true, if_false, Nat.reduceEqDiff, Nat.reduceLT, i6', d6, e22, l6, fldAk, n6, m6, sa, yov, sa2]
    refine ih q.2 pp it2 _ ok (l ++ lk) H6 _ (by omega) (by omega) q2 e1 x06 o6 (yfH (yfH hp8 q1.n8) b8_47) (by rw [List.length_append, List.length_append]; simp; omega) (by rw [List.length_append, <- hbq]; omega) ?_
    intro H7 ok' l' o7 hl7 h78 s7
    subst hII
    simp only [zZ, zY, q_W, ev, xbin, ibin, if_true, if_false, Nat.reduceEqDiff, Nat.reduceLT, w3]
    refine hJ _ _ ⟨ok', lk ++ l', by rw [<- List.append_assoc]; exact o7, ?_, fun p hp => ?_, ygC st6 s7, rfl⟩
    ·rw [step, List.map_append, hlk, hbq, hl7]
    ·exact (List.mem_append.1 hp).elim (hl8 p) (h78 p)
  ·rintro fr H4 ⟨ok, lk, o4, hlk, hl8, st4, rfl⟩
   rw [List.take_length] at hlk
   subst hTT
   simp only [zZ, zY, ydi, q_b, q_e, q_f, q_h, q_k, q_m, q_C, q_U, q_W, q_Z, v_ld, v_st, qb_h, qb_i, ev, qb_p, qb_q, qb_v, xbin, ibin, qb_A, qb_B, qb_C, resV, qb_D, if_true, if_false, Nat.reduceEqDiff, Nat.reduceLT, Int.lt_irrefl, decide_false]
   exact hq H4 ok lk o4 hlk hl8 (ygC (ybh out (x.trans x13)) st4)
end Go.Proofs.YtnjjnnfpnjjccaaGreatDoor.D
set_option linter.unusedSimpArgs false
set_option linter.unusedVariables false
namespace Go.Proofs.YtnjjnnfpnjjccaaGreatDoor.D
open Go Go.Det
variable {L : List (List Int)} {F : Nat -> Option Ent} {P : Nat -> List (Nat × Nat)}
def listT (F : Nat -> Option Ent) : List (List Int × List Int) := belowP F 9 0 []
theorem ync (R : TRep L F) {T S : Int} (g : Geo L T S) (v : Value) (H : AH) (Q : Value -> AH -> Prop) (hs : Secs H v L) (hl : (listT F).length <= 100000)
  (hq : ∀ H' vo l, HExt H H' -> Fils H' vo l -> l.map FE.told = listT F -> Q (.tuple [vo, .int .i64 0].toArray) H') : Got (xc Tryz.prog tab 17 [.agg #[.int .i64 T, .int .i64 S, v]] H) Q := by
 obtain ⟨⟨P, R'⟩, K⟩ := id R
 obtain ⟨d, d0, hd⟩ := K.dep
 obtain ⟨its, hr⟩ := K.root
 refine yac (res := [.tmp 2, .tmp 3]) rfl ?_
 have vA : vcells (.agg #[.int .i64 T, .int .i64 S, v]) = [.int .i64 T, .int .i64 S, v] := rfl
 have b := Bx.new H [.int .i64 T, .int .i64 S, v]
 have x := yab H ⟨[.int .i64 T, .int .i64 S, v], 1, false, false⟩
 generalize hTT : ((.seq (.seq (.ops (⟨some 5, _, _⟩ :: _) _) _) _) : XCode) = TT
 simp only [zZ, zY, ofArgs, qb_j, ev, if_true, if_false, reduceCtorEq, Nat.reduceEqDiff, Nat.reduceLT, vA]
 generalize H.push ⟨[.int .i64 T, .int .i64 S, v], 1, false, false⟩ = H1 at *
 have ldn := b.ldn 3 rfl
 subst hTT
 generalize hTT : ((.seq (.ops (⟨some 10, _, _⟩ :: _) _) _) : XCode) = TT
 simp only [zZ, zY, q_U, q_W, v_ld, ev, qb_p, qb_q, xbin, ibin, if_true, if_false, Nat.reduceEqDiff, Nat.reduceLT, ldn]
 refine fcheck R g v H1 _ (Secs.ext x hs) ?_
 intro H2 x2
 have l2 := (b.ext x2).ldn 3 rfl
 have x12 := x.trans x2
 subst hTT
 simp only [zZ, zY, q_d, q_f, q_m, q_C, q_U, v_ld, ev, qb_p, qb_q, qb_A, qb_B, qb_C, resV, qb_D, if_true, if_false, Nat.reduceEqDiff, Nat.reduceLT, bne_self_eq_false, l2, sbNil]
 refine yn4 R' K T S v H2 (Secs.ext x12 hs) d hd 9 0 0 its [] _ [] H2 _ (by omega) (by omega) (by omega) hr (HExt.refl H2) (OutE.nil _ _) yfG (by simp) (by rw [List.length_nil, Nat.zero_add]; exact hl) ?_
 intro H3 out l o3 hl3 h83 s3
 rw [List.nil_append] at o3
 have x3 : HExt H2 H3 := ⟨s3.n, fun b hb => s3.get b hb fun h => by obtain ⟨o, l, c, e⟩ := h; cases e⟩
 exact hq H3 out l (x12.trans x3) ⟨o3.own.1, o3.byt, h83⟩ hl3
end Go.Proofs.YtnjjnnfpnjjccaaGreatDoor.D
set_option linter.unusedSimpArgs false
set_option linter.unusedVariables false
namespace Go.Proofs.YtnjjnnfpnjjccaaGreatDoor.D
open Go Go.Det
variable {L : List (List Int)} {F : Nat -> Option Ent} {P : Nat -> List (Nat × Nat)}
end Go.Proofs.YtnjjnnfpnjjccaaGreatDoor.D
set_option linter.unusedSimpArgs false
set_option linter.unusedVariables false
namespace Go.Proofs.YtnjjnnfpnjjccaaGreatDoor.D
open Go Go.Det
theorem yfo {α : Type} {S : LS α} (hsz : S.sz = 2) {n0 : Nat} {H : AH} {v : Value} {l : List α} (ho : OL S n0 H v l) (k : Nat) (hk : k < l.length) (a : α) (h1 : (S.f a).all one = true) {Q : Value -> AH -> Prop} (hq : ∀ H', OL S n0 H' v (l.set k a) -> Stp v H v H' -> Q undef H') : Got (pSt 2 (ptrAt v (k * 2)) (.agg (S.f a).toArray) H) Q := by
 have := ypR ho k hk a h1 hq
 rwa [hsz] at this
theorem yke {α : Type} {S : LS α} (hsz : S.sz = 2) (lt : α -> α -> Bool) (g : Value) (I : AH -> Prop) (n0 : Nat) (l0 : List α) (hall : ∀ a ∈ l0, (S.f a).all one = true)
  (hg : ∀ a b H (Q : Value -> AH -> Prop), a ∈ l0 -> b ∈ l0 -> I H -> (∀ H' c, HExt H H' -> I H' -> (c < 0 ↔ lt a b = true) -> Q (.int .i64 c) H') -> Got (pCallV (xc Tryz.prog tab) g [.agg (S.f a).toArray, .agg (S.f b).toArray] H) Q)
  (hI : ∀ H H', I H -> Keep n0 H H' -> I H') (v a2 a8 : Value) (Q : XExit -> Fr -> AH -> Prop) : ∀ (j : Nat) (l : List α) (H : AH), j < l.length -> l.length <= 100000 -> l.Perm l0 -> n0 <= H.n -> I H -> OL S n0 H v l ->
  (∀ H' w b, OL S n0 H' v (siftP lt l j) -> Stp v H v H' -> I H' -> Q (.exit 2) [(0, v), (1, .int .i64 0), (2, a2), (3, g), (8, a8), (9, w), (34, b)] H') ->
  Run Tryz.prog tab (.loop yai) [(0, v), (1, .int .i64 0), (2, a2), (3, g), (8, a8), (9, .int .i64 (j : Int))] H Q := by
 intro j
 induction j with
 | zero =>
  intro l H hj hl hp hn hi ho hq
  rw [ybd]
  generalize hL : XCode.loop yai = LL
  have c0 : ¬ (((0 : Nat) : Int) > 0) := by omega
  unfold yai
  simp only [q_a, q_b, q_c, q_g, q_o, q_p, q_V, q_W, ev, qb_u, zB, xbin, ibin]
  refine yaL _ _ _ _ _ rfl ?_
  simp only [zZ, zY, q_e, q_h, q_x, q_C, q_S, q_T, q_W, qb_o, ev, xbin, ibin, if_true, if_false, reduceCtorEq, Nat.reduceEqDiff, Nat.reduceLT, c0, decide_false]
  exact hq H _ _ ho (ybh v (HExt.refl H)) hi
 | succ j ih =>
  intro l H hj hl hp hn hi ho hq
  rw [ybd]
  generalize hL : XCode.loop yai = LL
  have c0 : ((j + 1 : Nat) : Int) > 0 := by omega
  obtain ⟨a, ha⟩ : ∃ a, l[j]? = some a := ⟨_, List.getElem?_eq_getElem (by omega)⟩
  obtain ⟨b, hb⟩ : ∃ b, l[j + 1]? = some b := ⟨_, List.getElem?_eq_getElem hj⟩
  have ham := hp.mem_iff.1 (List.mem_of_getElem? ha)
  have hbm := hp.mem_iff.1 (List.mem_of_getElem? hb)
  have w1 : IntKind.i64.wrap (((j + 1 : Nat) : Int) - 1) = (j : Int) := by rw [wrI _ (by omega) (by omega)]; omega
  have a1 := SL.at ho.1 .i64 ((j + 1 : Nat) : Int) (j + 1) rfl hj
  have a2 := SL.ldk ho.1 (j + 1) b hb
  have b1 := SL.at ho.1 .i64 (j : Int) j rfl (by omega)
  have b2 := SL.ldk ho.1 j a ha
  rw [hsz] at a1 a2 b1 b2
  unfold yai
  simp only [q_a, q_b, q_c, q_g, q_o, q_p, q_V, q_W, ev, qb_u, zB, xbin, ibin]
  refine yaL _ _ _ _ _ rfl ?_
  simp only [zZ, zY, q_w, q_S, q_T, q_W, q_Z, v_ld, qb_o, ev, qb_p, qb_q, xbin, ibin, if_true, if_false, reduceCtorEq, Nat.reduceEqDiff, Nat.reduceLT, c0, decide_true, w1, a1, a2, b1, b2, yd8]
  refine hg b a H _ hbm ham hi ?_
  intro H1 c x1 i1 hc
  have hs : siftP lt l (j + 1) = if lt b a then siftP lt ((l.set (j + 1) a).set j b) j else l := by
   rw [siftP, ha, hb]
  rw [hs] at hq
  by_cases hlt : lt b a = true
  ·rw [if_pos hlt] at hq
   have cc : c < 0 := hc.2 hlt
   have o1 : OL S n0 H1 v l := ho.ext x1
   have a1 := SL.at o1.1 .i64 ((j + 1 : Nat) : Int) (j + 1) rfl hj
   have a2 := SL.ldk o1.1 (j + 1) b hb
   have b1 := SL.at o1.1 .i64 (j : Int) j rfl (by omega)
   have b2 := SL.ldk o1.1 j a ha
   rw [hsz] at a1 a2 b1 b2
   simp only [q_d, q_g, q_q, q_B, ev, qb_r, zC, if_true, if_false, reduceCtorEq, Nat.reduceEqDiff, cc, decide_true]
   refine yaL _ _ _ _ _ rfl ?_
   simp only [zZ, zY, q_j, q_S, q_T, q_W, q_Z, v_ld, v_st, ev, qb_v, xbin, ibin, if_true, if_false, reduceCtorEq, Nat.reduceEqDiff, Nat.reduceLT, w1, a1, a2, b1, b2]
   refine yfo hsz o1 (j + 1) hj a (hall a ham) ?_
   intro H2 o2 s2
   have b1 := SL.at o2.1 .i64 (j : Int) j rfl (by rw [List.length_set]; omega)
   rw [hsz] at b1
   simp only [q_q, b1]
   refine yfo hsz o2 j (by rw [List.length_set]; omega) b (hall b hbm) ?_
   intro H3 o3 s3
   have s13 : Stp v H v H3 := ycx (ybh v x1) (ycx s2 s3)
   have k13 : Keep n0 H H3 := s13.keep ho hn
   subst hL
   refine ih _ H3 (by simp; omega) (by simpa using hl) ((ye0 l j a b ha hb).trans hp) (Nat.le_trans hn k13.1) (hI _ _ hi k13) o3 ?_
   intro H4 w bb o4 s4 i4
   exact hq H4 w bb o4 (ycx s13 s4) i4
  ·rw [if_neg hlt] at hq
   have cc : ¬ c < 0 := fun h => hlt (hc.1 h)
   simp only [q_e, q_h, q_q, q_C, ev, qb_r, zC, if_true, if_false, reduceCtorEq, Nat.reduceEqDiff, cc, decide_false]
   exact hq H1 _ _ (ho.ext x1) (ybh v x1) i1
theorem ymo {α : Type} {S : LS α} (hsz : S.sz = 2) (lt : α -> α -> Bool) (g : Value) (I : AH -> Prop) (n0 : Nat) (l0 : List α) (hall : ∀ a ∈ l0, (S.f a).all one = true)
  (hg : ∀ a b H (Q : Value -> AH -> Prop), a ∈ l0 -> b ∈ l0 -> I H -> (∀ H' c, HExt H H' -> I H' -> (c < 0 ↔ lt a b = true) -> Q (.int .i64 c) H') -> Got (pCallV (xc Tryz.prog tab) g [.agg (S.f a).toArray, .agg (S.f b).toArray] H) Q)
  (hI : ∀ H H', I H -> Keep n0 H H' -> I H') (v : Value) (H : AH) (Q : Value -> AH -> Prop) (hl : l0.length <= 100000) (hn : n0 <= H.n) (hi : I H) (ho : OL S n0 H v l0)
  (hq : ∀ H', OL S n0 H' v (isortP lt l0 (l0.length - 1)) -> Stp v H v H' -> I H' -> Q undef H') :
  Got (xc Tryz.prog tab 155 [v, .int .i64 0, .int .i64 (l0.length : Int), g] H) Q := by
 refine yac (res := []) rfl ?_
 have w0 : IntKind.i64.wrap ((0 : Int) + 1) = 1 := wrI _ (by omega) (by omega)
 simp only [zZ, zY, ofArgs, q_b, q_W, ev, xbin, ibin, if_true, if_false, reduceCtorEq, Nat.reduceEqDiff, Nat.reduceLT, Nat.zero_add, Nat.reduceAdd, w0]
 refine yaz (fun k fr H' => OL S n0 H' v (isortP lt l0 k) /\ Stp v H v H' /\ I H' /\ fr = [(0, v), (1, .int .i64 0), (2, .int .i64 (l0.length : Int)), (3, g), (8, .int .i64 ((k + 1 : Nat) : Int))]) (l0.length - 1) ⟨ho, ybh v (HExt.refl H), hi, rfl⟩ ?_ ?_
 ·rintro k hk fr H1 ⟨o1, s1, i1, rfl⟩ J hJ
  have hlt : ((k + 1 : Nat) : Int) < (l0.length : Int) := by omega
  have w3 := wrS (k + 1) (by omega)
  unfold yaE
  simp only [zZ, zY, q_b, q_d, q_B, q_W, ev, xbin, ibin, if_true, if_false, reduceCtorEq, Nat.reduceEqDiff, Nat.reduceLT, hlt, decide_true]
  refine yke hsz lt g I n0 l0 hall hg hI v _ _ _ (k + 1) _ H1 (by rw [ycL]; omega) (by rw [ycL]; exact hl) (ybD lt l0 k) (Nat.le_trans hn s1.n) i1 o1 ?_
  intro H2 w b o2 s2 i2
  simp only [zZ, zY, q_h, q_j, q_k, if_true, if_false, reduceCtorEq, Nat.reduceEqDiff, Nat.reduceLT, w3]
  exact hJ _ _ ⟨o2, ycx s1 s2, i2, rfl⟩
 ·rintro fr H1 ⟨o1, s1, i1, rfl⟩
  have hlt : ¬ ((l0.length - 1 + 1 : Nat) : Int) < (l0.length : Int) := by omega
  unfold yaE
  simp only [zZ, zY, q_b, q_e, q_h, q_k, q_n, q_C, q_W, ev, xbin, ibin, qb_A, qb_B, resV, qb_D, if_true, if_false, reduceCtorEq, Nat.reduceEqDiff, Nat.reduceLT, hlt, decide_false]
  exact hq H1 o1 s1 i1
theorem ygU {α : Type} {S : LS α} (hsz : S.sz = 2) (lt : α -> α -> Bool) (g : Value) (I : AH -> Prop) (n0 : Nat) (l0 : List α) (hall : ∀ a ∈ l0, (S.f a).all one = true)
  (hg : ∀ a b H (Q : Value -> AH -> Prop), a ∈ l0 -> b ∈ l0 -> I H -> (∀ H' c, HExt H H' -> I H' -> (c < 0 ↔ lt a b = true) -> Q (.int .i64 c) H') -> Got (pCallV (xc Tryz.prog tab) g [.agg (S.f a).toArray, .agg (S.f b).toArray] H) Q)
  (hI : ∀ H H', I H -> Keep n0 H H' -> I H') (v a2 a8 : Value) (Q : XExit -> Fr -> AH -> Prop) : ∀ (j : Nat) (l : List α) (H : AH), j < l.length -> l.length <= 100000 -> l.Perm l0 -> n0 <= H.n -> I H -> OL S n0 H v l ->
  (∀ H' w b, OL S n0 H' v (siftP lt l j) -> Stp v H v H' -> I H' -> Q (.exit 2) [(0, v), (1, .int .i64 0), (2, a2), (3, g), (8, a8), (9, w), (34, b)] H') ->
  Run Tryz.prog tab (.loop yag) [(0, v), (1, .int .i64 0), (2, a2), (3, g), (8, a8), (9, .int .i64 (j : Int))] H Q := by
 intro j
 induction j with
 | zero =>
  intro l H hj hl hp hn hi ho hq
  rw [ybd]
  generalize hL : XCode.loop yag = LL
  have c0 : ¬ (((0 : Nat) : Int) > 0) := by omega
  unfold yag
  simp only [q_a, q_b, q_c, q_g, q_o, q_p, q_V, q_W, ev, qb_u, zB, xbin, ibin]
  refine yaL _ _ _ _ _ rfl ?_
  simp only [zZ, zY, q_e, q_h, q_x, q_C, q_S, q_T, q_W, qb_o, ev, xbin, ibin, if_true, if_false, reduceCtorEq, Nat.reduceEqDiff, Nat.reduceLT, c0, decide_false]
  exact hq H _ _ ho (ybh v (HExt.refl H)) hi
 | succ j ih =>
  intro l H hj hl hp hn hi ho hq
  rw [ybd]
  generalize hL : XCode.loop yag = LL
  have c0 : ((j + 1 : Nat) : Int) > 0 := by omega
  obtain ⟨a, ha⟩ : ∃ a, l[j]? = some a := ⟨_, List.getElem?_eq_getElem (by omega)⟩
  obtain ⟨b, hb⟩ : ∃ b, l[j + 1]? = some b := ⟨_, List.getElem?_eq_getElem hj⟩
  have ham := hp.mem_iff.1 (List.mem_of_getElem? ha)
  have hbm := hp.mem_iff.1 (List.mem_of_getElem? hb)
  have w1 : IntKind.i64.wrap (((j + 1 : Nat) : Int) - 1) = (j : Int) := by rw [wrI _ (by omega) (by omega)]; omega
  have a1 := SL.at ho.1 .i64 ((j + 1 : Nat) : Int) (j + 1) rfl hj
  have a2 := SL.ldk ho.1 (j + 1) b hb
  have b1 := SL.at ho.1 .i64 (j : Int) j rfl (by omega)
  have b2 := SL.ldk ho.1 j a ha
  rw [hsz] at a1 a2 b1 b2
  unfold yag
  simp only [q_a, q_b, q_c, q_g, q_o, q_p, q_V, q_W, ev, qb_u, zB, xbin, ibin]
  refine yaL _ _ _ _ _ rfl ?_
  simp only [zZ, zY, q_w, q_S, q_T, q_W, q_Z, v_ld, qb_o, ev, qb_p, qb_q, xbin, ibin, if_true, if_false, reduceCtorEq, Nat.reduceEqDiff, Nat.reduceLT, c0, decide_true, w1, a1, a2, b1, b2, yd8]
  refine hg b a H _ hbm ham hi ?_
  intro H1 c x1 i1 hc
  have hs : siftP lt l (j + 1) = if lt b a then siftP lt ((l.set (j + 1) a).set j b) j else l := by
   rw [siftP, ha, hb]
  rw [hs] at hq
  by_cases hlt : lt b a = true
  ·rw [if_pos hlt] at hq
   have cc : c < 0 := hc.2 hlt
   have o1 : OL S n0 H1 v l := ho.ext x1
   have a1 := SL.at o1.1 .i64 ((j + 1 : Nat) : Int) (j + 1) rfl hj
   have a2 := SL.ldk o1.1 (j + 1) b hb
   have b1 := SL.at o1.1 .i64 (j : Int) j rfl (by omega)
   have b2 := SL.ldk o1.1 j a ha
   rw [hsz] at a1 a2 b1 b2
   simp only [q_d, q_g, q_q, q_B, ev, qb_r, zC, if_true, if_false, reduceCtorEq, Nat.reduceEqDiff, cc, decide_true]
   refine yaL _ _ _ _ _ rfl ?_
   simp only [zZ, zY, q_j, q_S, q_T, q_W, q_Z, v_ld, v_st, ev, qb_v, xbin, ibin, if_true, if_false, reduceCtorEq, Nat.reduceEqDiff, Nat.reduceLT, w1, a1, a2, b1, b2]
   refine yfo hsz o1 (j + 1) hj a (hall a ham) ?_
   intro H2 o2 s2
   have b1 := SL.at o2.1 .i64 (j : Int) j rfl (by rw [List.length_set]; omega)
   rw [hsz] at b1
   simp only [q_q, b1]
   refine yfo hsz o2 j (by rw [List.length_set]; omega) b (hall b hbm) ?_
   intro H3 o3 s3
   have s13 : Stp v H v H3 := ycx (ybh v x1) (ycx s2 s3)
   have k13 : Keep n0 H H3 := s13.keep ho hn
   subst hL
   refine ih _ H3 (by simp; omega) (by simpa using hl) ((ye0 l j a b ha hb).trans hp) (Nat.le_trans hn k13.1) (hI _ _ hi k13) o3 ?_
   intro H4 w bb o4 s4 i4
   exact hq H4 w bb o4 (ycx s13 s4) i4
  ·rw [if_neg hlt] at hq
   have cc : ¬ c < 0 := fun h => hlt (hc.1 h)
   simp only [q_e, q_h, q_q, q_C, ev, qb_r, zC, if_true, if_false, reduceCtorEq, Nat.reduceEqDiff, cc, decide_false]
   exact hq H1 _ _ (ho.ext x1) (ybh v x1) i1
theorem yiS {α : Type} {S : LS α} (hsz : S.sz = 2) (lt : α -> α -> Bool) (g : Value) (I : AH -> Prop) (n0 : Nat) (l0 : List α) (hall : ∀ a ∈ l0, (S.f a).all one = true)
  (hg : ∀ a b H (Q : Value -> AH -> Prop), a ∈ l0 -> b ∈ l0 -> I H -> (∀ H' c, HExt H H' -> I H' -> (c < 0 ↔ lt a b = true) -> Q (.int .i64 c) H') -> Got (pCallV (xc Tryz.prog tab) g [.agg (S.f a).toArray, .agg (S.f b).toArray] H) Q)
  (hI : ∀ H H', I H -> Keep n0 H H' -> I H') (v : Value) (H : AH) (Q : Value -> AH -> Prop) (hl : l0.length <= 100000) (hn : n0 <= H.n) (hi : I H) (ho : OL S n0 H v l0)
  (hq : ∀ H', OL S n0 H' v (isortP lt l0 (l0.length - 1)) -> Stp v H v H' -> I H' -> Q undef H') :
  Got (xc Tryz.prog tab 138 [v, .int .i64 0, .int .i64 (l0.length : Int), g] H) Q := by
 refine yac (res := []) rfl ?_
 have w0 : IntKind.i64.wrap ((0 : Int) + 1) = 1 := wrI _ (by omega) (by omega)
 simp only [zZ, zY, ofArgs, q_b, q_W, ev, xbin, ibin, if_true, if_false, reduceCtorEq, Nat.reduceEqDiff, Nat.reduceLT, Nat.zero_add, Nat.reduceAdd, w0]
 refine yaz (fun k fr H' => OL S n0 H' v (isortP lt l0 k) /\ Stp v H v H' /\ I H' /\ fr = [(0, v), (1, .int .i64 0), (2, .int .i64 (l0.length : Int)), (3, g), (8, .int .i64 ((k + 1 : Nat) : Int))]) (l0.length - 1) ⟨ho, ybh v (HExt.refl H), hi, rfl⟩ ?_ ?_
 ·rintro k hk fr H1 ⟨o1, s1, i1, rfl⟩ J hJ
  have hlt : ((k + 1 : Nat) : Int) < (l0.length : Int) := by omega
  have w3 := wrS (k + 1) (by omega)
  unfold yax
  simp only [zZ, zY, q_b, q_d, q_B, q_W, ev, xbin, ibin, if_true, if_false, reduceCtorEq, Nat.reduceEqDiff, Nat.reduceLT, hlt, decide_true]
  refine ygU hsz lt g I n0 l0 hall hg hI v _ _ _ (k + 1) _ H1 (by rw [ycL]; omega) (by rw [ycL]; exact hl) (ybD lt l0 k) (Nat.le_trans hn s1.n) i1 o1 ?_
  intro H2 w b o2 s2 i2
  simp only [zZ, zY, q_h, q_j, q_k, if_true, if_false, reduceCtorEq, Nat.reduceEqDiff, Nat.reduceLT, w3]
  exact hJ _ _ ⟨o2, ycx s1 s2, i2, rfl⟩
 ·rintro fr H1 ⟨o1, s1, i1, rfl⟩
  have hlt : ¬ ((l0.length - 1 + 1 : Nat) : Int) < (l0.length : Int) := by omega
  unfold yax
  simp only [zZ, zY, q_b, q_e, q_h, q_k, q_n, q_C, q_W, ev, xbin, ibin, qb_A, qb_B, resV, qb_D, if_true, if_false, reduceCtorEq, Nat.reduceEqDiff, Nat.reduceLT, hlt, decide_false]
  exact hq H1 o1 s1 i1
theorem yhx {α : Type} {S : LS α} (hsz : S.sz = 2) (lt : α -> α -> Bool) (g : Value) (I : AH -> Prop) (n0 : Nat) (l0 : List α) (hall : ∀ a ∈ l0, (S.f a).all one = true)
  (hg : ∀ a b H (Q : Value -> AH -> Prop), a ∈ l0 -> b ∈ l0 -> I H -> (∀ H' c, HExt H H' -> I H' -> (c < 0 ↔ lt a b = true) -> Q (.int .i64 c) H') -> Got (pCallV (xc Tryz.prog tab) g [.agg (S.f a).toArray, .agg (S.f b).toArray] H) Q)
  (hI : ∀ H H', I H -> Keep n0 H H' -> I H') (v a2 a8 : Value) (Q : XExit -> Fr -> AH -> Prop) : ∀ (j : Nat) (l : List α) (H : AH), j < l.length -> l.length <= 100000 -> l.Perm l0 -> n0 <= H.n -> I H -> OL S n0 H v l ->
  (∀ H' w b, OL S n0 H' v (siftP lt l j) -> Stp v H v H' -> I H' -> Q (.exit 2) [(0, v), (1, .int .i64 0), (2, a2), (3, g), (8, a8), (9, w), (34, b)] H') ->
  Run Tryz.prog tab (.loop yah) [(0, v), (1, .int .i64 0), (2, a2), (3, g), (8, a8), (9, .int .i64 (j : Int))] H Q := by
 intro j
 induction j with
 | zero =>
  intro l H hj hl hp hn hi ho hq
  rw [ybd]
  generalize hL : XCode.loop yah = LL
  have c0 : ¬ (((0 : Nat) : Int) > 0) := by omega
  unfold yah
  simp only [q_a, q_b, q_c, q_g, q_o, q_p, q_V, q_W, ev, qb_u, zB, xbin, ibin]
  refine yaL _ _ _ _ _ rfl ?_
  simp only [zZ, zY, q_e, q_h, q_x, q_C, q_S, q_T, q_W, qb_o, ev, xbin, ibin, if_true, if_false, reduceCtorEq, Nat.reduceEqDiff, Nat.reduceLT, c0, decide_false]
  exact hq H _ _ ho (ybh v (HExt.refl H)) hi
 | succ j ih =>
  intro l H hj hl hp hn hi ho hq
  rw [ybd]
  generalize hL : XCode.loop yah = LL
  have c0 : ((j + 1 : Nat) : Int) > 0 := by omega
  obtain ⟨a, ha⟩ : ∃ a, l[j]? = some a := ⟨_, List.getElem?_eq_getElem (by omega)⟩
  obtain ⟨b, hb⟩ : ∃ b, l[j + 1]? = some b := ⟨_, List.getElem?_eq_getElem hj⟩
  have ham := hp.mem_iff.1 (List.mem_of_getElem? ha)
  have hbm := hp.mem_iff.1 (List.mem_of_getElem? hb)
  have w1 : IntKind.i64.wrap (((j + 1 : Nat) : Int) - 1) = (j : Int) := by rw [wrI _ (by omega) (by omega)]; omega
  have a1 := SL.at ho.1 .i64 ((j + 1 : Nat) : Int) (j + 1) rfl hj
  have a2 := SL.ldk ho.1 (j + 1) b hb
  have b1 := SL.at ho.1 .i64 (j : Int) j rfl (by omega)
  have b2 := SL.ldk ho.1 j a ha
  rw [hsz] at a1 a2 b1 b2
  unfold yah
  simp only [q_a, q_b, q_c, q_g, q_o, q_p, q_V, q_W, ev, qb_u, zB, xbin, ibin]
  refine yaL _ _ _ _ _ rfl ?_
  simp only [zZ, zY, q_w, q_S, q_T, q_W, q_Z, v_ld, qb_o, ev, qb_p, qb_q, xbin, ibin, if_true, if_false, reduceCtorEq, Nat.reduceEqDiff, Nat.reduceLT, c0, decide_true, w1, a1, a2, b1, b2, yd8]
  refine hg b a H _ hbm ham hi ?_
  intro H1 c x1 i1 hc
  have hs : siftP lt l (j + 1) = if lt b a then siftP lt ((l.set (j + 1) a).set j b) j else l := by
   rw [siftP, ha, hb]
  rw [hs] at hq
  by_cases hlt : lt b a = true
  ·rw [if_pos hlt] at hq
   have cc : c < 0 := hc.2 hlt
   have o1 : OL S n0 H1 v l := ho.ext x1
   have a1 := SL.at o1.1 .i64 ((j + 1 : Nat) : Int) (j + 1) rfl hj
   have a2 := SL.ldk o1.1 (j + 1) b hb
   have b1 := SL.at o1.1 .i64 (j : Int) j rfl (by omega)
   have b2 := SL.ldk o1.1 j a ha
   rw [hsz] at a1 a2 b1 b2
   simp only [q_d, q_g, q_q, q_B, ev, qb_r, zC, if_true, if_false, reduceCtorEq, Nat.reduceEqDiff, cc, decide_true]
   refine yaL _ _ _ _ _ rfl ?_
   simp only [zZ, zY, q_j, q_S, q_T, q_W, q_Z, v_ld, v_st, ev, qb_v, xbin, ibin, if_true, if_false, reduceCtorEq, Nat.reduceEqDiff, Nat.reduceLT, w1, a1, a2, b1, b2]
   refine yfo hsz o1 (j + 1) hj a (hall a ham) ?_
   intro H2 o2 s2
   have b1 := SL.at o2.1 .i64 (j : Int) j rfl (by rw [List.length_set]; omega)
   rw [hsz] at b1
   simp only [q_q, b1]
   refine yfo hsz o2 j (by rw [List.length_set]; omega) b (hall b hbm) ?_
   intro H3 o3 s3
   have s13 : Stp v H v H3 := ycx (ybh v x1) (ycx s2 s3)
   have k13 : Keep n0 H H3 := s13.keep ho hn
   subst hL
   refine ih _ H3 (by simp; omega) (by simpa using hl) ((ye0 l j a b ha hb).trans hp) (Nat.le_trans hn k13.1) (hI _ _ hi k13) o3 ?_
   intro H4 w bb o4 s4 i4
   exact hq H4 w bb o4 (ycx s13 s4) i4
  ·rw [if_neg hlt] at hq
   have cc : ¬ c < 0 := fun h => hlt (hc.1 h)
   simp only [q_e, q_h, q_q, q_C, ev, qb_r, zC, if_true, if_false, reduceCtorEq, Nat.reduceEqDiff, cc, decide_false]
   exact hq H1 _ _ (ho.ext x1) (ybh v x1) i1
theorem yjD {α : Type} {S : LS α} (hsz : S.sz = 2) (lt : α -> α -> Bool) (g : Value) (I : AH -> Prop) (n0 : Nat) (l0 : List α) (hall : ∀ a ∈ l0, (S.f a).all one = true)
  (hg : ∀ a b H (Q : Value -> AH -> Prop), a ∈ l0 -> b ∈ l0 -> I H -> (∀ H' c, HExt H H' -> I H' -> (c < 0 ↔ lt a b = true) -> Q (.int .i64 c) H') -> Got (pCallV (xc Tryz.prog tab) g [.agg (S.f a).toArray, .agg (S.f b).toArray] H) Q)
  (hI : ∀ H H', I H -> Keep n0 H H' -> I H') (v : Value) (H : AH) (Q : Value -> AH -> Prop) (hl : l0.length <= 100000) (hn : n0 <= H.n) (hi : I H) (ho : OL S n0 H v l0)
  (hq : ∀ H', OL S n0 H' v (isortP lt l0 (l0.length - 1)) -> Stp v H v H' -> I H' -> Q undef H') :
  Got (xc Tryz.prog tab 113 [v, .int .i64 0, .int .i64 (l0.length : Int), g] H) Q := by
 refine yac (res := []) rfl ?_
 have w0 : IntKind.i64.wrap ((0 : Int) + 1) = 1 := wrI _ (by omega) (by omega)
 simp only [zZ, zY, ofArgs, q_b, q_W, ev, xbin, ibin, if_true, if_false, reduceCtorEq, Nat.reduceEqDiff, Nat.reduceLT, Nat.zero_add, Nat.reduceAdd, w0]
 refine yaz (fun k fr H' => OL S n0 H' v (isortP lt l0 k) /\ Stp v H v H' /\ I H' /\ fr = [(0, v), (1, .int .i64 0), (2, .int .i64 (l0.length : Int)), (3, g), (8, .int .i64 ((k + 1 : Nat) : Int))]) (l0.length - 1) ⟨ho, ybh v (HExt.refl H), hi, rfl⟩ ?_ ?_
 ·rintro k hk fr H1 ⟨o1, s1, i1, rfl⟩ J hJ
  have hlt : ((k + 1 : Nat) : Int) < (l0.length : Int) := by omega
  have w3 := wrS (k + 1) (by omega)
  unfold yaA
  simp only [zZ, zY, q_b, q_d, q_B, q_W, ev, xbin, ibin, if_true, if_false, reduceCtorEq, Nat.reduceEqDiff, Nat.reduceLT, hlt, decide_true]
  refine yhx hsz lt g I n0 l0 hall hg hI v _ _ _ (k + 1) _ H1 (by rw [ycL]; omega) (by rw [ycL]; exact hl) (ybD lt l0 k) (Nat.le_trans hn s1.n) i1 o1 ?_
  intro H2 w b o2 s2 i2
  simp only [zZ, zY, q_h, q_j, q_k, if_true, if_false, reduceCtorEq, Nat.reduceEqDiff, Nat.reduceLT, w3]
  exact hJ _ _ ⟨o2, ycx s1 s2, i2, rfl⟩
 ·rintro fr H1 ⟨o1, s1, i1, rfl⟩
  have hlt : ¬ ((l0.length - 1 + 1 : Nat) : Int) < (l0.length : Int) := by omega
  unfold yaA
  simp only [zZ, zY, q_b, q_e, q_h, q_k, q_n, q_C, q_W, ev, xbin, ibin, qb_A, qb_B, resV, qb_D, if_true, if_false, reduceCtorEq, Nat.reduceEqDiff, Nat.reduceLT, hlt, decide_false]
  exact hq H1 o1 s1 i1
theorem wrUu (n : Nat) (h : n < 1000000) : IntKind.u64.wrap (n : Int) = (n : Int) := by
 show (if (false && decide ((n : Int) % (2 ^ 64 : Int) >= (2 ^ 63 : Int))) = true then (n : Int) % (2 ^ 64 : Int) - (2 ^ 64 : Int) else (n : Int) % (2 ^ 64 : Int)) = n
 rw [show (2 : Int) ^ 64 = 18446744073709551616 from rfl]
 simp only [Bool.false_and, zA, if_false]
 omega
def lenTab : ByteArray := (ByteArray.mk (List.toArray (List.append (List.append [0, 1, 2, 2, 3, 3, 3, 3, 4, 4, 4, 4, 4, 4, 4, 4, 5, 5, 5, 5, 5, 5, 5, 5, 5, 5, 5, 5, 5, 5, 5, 5, 6, 6, 6, 6, 6, 6, 6, 6, 6, 6, 6, 6, 6, 6, 6, 6, 6, 6, 6, 6, 6, 6, 6, 6, 6, 6, 6, 6, 6, 6, 6, 6] [7, 7, 7, 7, 7, 7, 7, 7, 7, 7, 7, 7, 7, 7, 7, 7, 7, 7, 7, 7, 7, 7, 7, 7, 7, 7, 7, 7, 7, 7, 7, 7, 7, 7, 7, 7, 7, 7, 7, 7, 7, 7, 7, 7, 7, 7, 7, 7, 7, 7, 7, 7, 7, 7, 7, 7, 7, 7, 7, 7, 7, 7, 7, 7]) (List.append [8, 8, 8, 8, 8, 8, 8, 8, 8, 8, 8, 8, 8, 8, 8, 8, 8, 8, 8, 8, 8, 8, 8, 8, 8, 8, 8, 8, 8, 8, 8, 8, 8, 8, 8, 8, 8, 8, 8, 8, 8, 8, 8, 8, 8, 8, 8, 8, 8, 8, 8, 8, 8, 8, 8, 8, 8, 8, 8, 8, 8, 8, 8, 8] [8, 8, 8, 8, 8, 8, 8, 8, 8, 8, 8, 8, 8, 8, 8, 8, 8, 8, 8, 8, 8, 8, 8, 8, 8, 8, 8, 8, 8, 8, 8, 8, 8, 8, 8, 8, 8, 8, 8, 8, 8, 8, 8, 8, 8, 8, 8, 8, 8, 8, 8, 8, 8, 8, 8, 8, 8, 8, 8, 8, 8, 8, 8, 8]))))
theorem ykc : lenTab.size = 256 := by kernel_rfl
theorem ymn : (ByteArray.mk (List.toArray (List.append (List.append [0, 1, 2, 2, 3, 3, 3, 3, 4, 4, 4, 4, 4, 4, 4, 4, 5, 5, 5, 5, 5, 5, 5, 5, 5, 5, 5, 5, 5, 5, 5, 5, 6, 6, 6, 6, 6, 6, 6, 6, 6, 6, 6, 6, 6, 6, 6, 6, 6, 6, 6, 6, 6, 6, 6, 6, 6, 6, 6, 6, 6, 6, 6, 6] [7, 7, 7, 7, 7, 7, 7, 7, 7, 7, 7, 7, 7, 7, 7, 7, 7, 7, 7, 7, 7, 7, 7, 7, 7, 7, 7, 7, 7, 7, 7, 7, 7, 7, 7, 7, 7, 7, 7, 7, 7, 7, 7, 7, 7, 7, 7, 7, 7, 7, 7, 7, 7, 7, 7, 7, 7, 7, 7, 7, 7, 7, 7, 7]) (List.append [8, 8, 8, 8, 8, 8, 8, 8, 8, 8, 8, 8, 8, 8, 8, 8, 8, 8, 8, 8, 8, 8, 8, 8, 8, 8, 8, 8, 8, 8, 8, 8, 8, 8, 8, 8, 8, 8, 8, 8, 8, 8, 8, 8, 8, 8, 8, 8, 8, 8, 8, 8, 8, 8, 8, 8, 8, 8, 8, 8, 8, 8, 8, 8] [8, 8, 8, 8, 8, 8, 8, 8, 8, 8, 8, 8, 8, 8, 8, 8, 8, 8, 8, 8, 8, 8, 8, 8, 8, 8, 8, 8, 8, 8, 8, 8, 8, 8, 8, 8, 8, 8, 8, 8, 8, 8, 8, 8, 8, 8, 8, 8, 8, 8, 8, 8, 8, 8, 8, 8, 8, 8, 8, 8, 8, 8, 8, 8])))) = lenTab := rfl
theorem yoO (s : ByteArray) (n : Nat) (h : n < s.size) (H : AH) : pSix (.string s) (.int .u8 (n : Int)) H = some (.int .u8 ((s[n]'h).toNat : Int), H) := dif_pos h
theorem len_ok (n : Nat) (hn : n < 256) (H : AH) : ∃ c, xc Tryz.prog tab 88 [.int .u64 (n : Int)] H = some (.int .i64 c, H) := by
 have h : n < lenTab.size := by rw [ykc]; exact hn
 have six : pSix (.string lenTab) (.int .u8 (n : Int)) H = some (.int .u8 ((lenTab[n]'h).toNat : Int), H) := yoO lenTab n h H
 have hb : (lenTab[n]'h).toNat < 256 := (lenTab[n]'h).toNat_lt
 have c1 : ¬ ((n : Int) >= 4294967296) := by omega
 have c2 : ¬ ((n : Int) >= 65536) := by omega
 have c3 : ¬ ((n : Int) >= 256) := by omega
 have cv : pConv .u8 (.int .u64 (n : Int)) H = some (.int .u8 (n : Int), H) := by
  show some (Value.int .u8 (IntKind.u8.wrap (n : Int)), H) = _
  rw [show IntKind.u8.wrap (n : Int) = (n : Int) by
   show (if (false && decide ((n : Int) % (2 ^ 8 : Int) >= (2 ^ 7 : Int))) = true then (n : Int) % (2 ^ 8 : Int) - (2 ^ 8 : Int) else (n : Int) % (2 ^ 8 : Int)) = n
   rw [show (2 : Int) ^ 8 = 256 from rfl]
   simp only [Bool.false_and, zA, if_false]
   omega]
 have cw : pConv .i64 (.int .u8 ((lenTab[n]'h).toNat : Int)) H = some (.int .i64 ((lenTab[n]'h).toNat : Int), H) := ya5 _ _ (by omega) (by omega) H
 refine ⟨IntKind.i64.wrap (0 + ((lenTab[n]'h).toNat : Int)), ycd (yac (res := [.tmp 2]) rfl ?_)⟩
 simp only [zZ, zY, ofArgs, q_f, q_m, q_U, ev, qb_p, qb_q, qb_A, qb_B, qb_C, if_true, if_false, reduceCtorEq, Nat.reduceLT]
 rw [q_C (by rfl)]
 simp only [zZ, zY, q_d, resV, qb_D, if_true, if_false, reduceCtorEq, Nat.reduceEqDiff, Nat.reduceLT]
 refine yac (res := [.tmp 2]) rfl ?_
 simp only [zZ, zY, ofArgs, q_d, q_f, q_m, q_C, q_W, qb_f, ev, xbin, ibin, qb_A, qb_B, qb_C, resV, qb_D, if_true, if_false, reduceCtorEq, Nat.reduceEqDiff, Nat.reduceLT, and_true, ymn, c1, c2, c3, decide_false, cv, v_six ty9, optgd, six, cw]
theorem yhu {α : Type} {S : LS α} (hsz : S.sz = 2) (lt : α -> α -> Bool) (g : Value) (I : AH -> Prop) (n0 : Nat) (l0 : List α) (hall : ∀ a ∈ l0, (S.f a).all one = true)
  (hg : ∀ a b H (Q : Value -> AH -> Prop), a ∈ l0 -> b ∈ l0 -> I H -> (∀ H' c, HExt H H' -> I H' -> (c < 0 ↔ lt a b = true) -> Q (.int .i64 c) H') -> Got (pCallV (xc Tryz.prog tab) g [.agg (S.f a).toArray, .agg (S.f b).toArray] H) Q)
  (hI : ∀ H H', I H -> Keep n0 H H' -> I H') (v : Value) (H : AH) (Q : Value -> AH -> Prop) (hl : l0.length <= 12) (hn : n0 <= H.n) (hi : I H) (ho : OL S n0 H v l0)
  (hq : ∀ H', OL S n0 H' v (isortP lt l0 (l0.length - 1)) -> Stp v H v H' -> I H' -> Q undef H') :
  Got (xc Tryz.prog tab 84 [v, g] H) Q := by
 refine yac (res := []) rfl ?_
 have lv := SL.len_ok ho.1
 have w1 := wrUu l0.length (by omega)
 obtain ⟨c, hc⟩ := len_ok l0.length (by omega) H
 simp only [zZ, zY, ofArgs, q_n, q_U, q_X, qb_f, ev, qb_p, qb_q, qb_A, qb_B, resV, qb_D, if_true, if_false, reduceCtorEq, Nat.reduceEqDiff, Nat.reduceLT, Nat.zero_add, lv, pConv, w1, hc]
 refine yac (res := []) rfl ?_
 simp only [zZ, zY, ofArgs, q_b, ev, if_true, if_false, reduceCtorEq, Nat.reduceEqDiff, Nat.reduceLT, Nat.zero_add, Nat.reduceAdd]
 rw [ybd]
 generalize hL : XCode.loop yaG = LL
 unfold yaG
 generalize hTT : ((.seq (.seq (.ops (⟨some 31, _, _⟩ :: _) _) _) _) : XCode) = TT
 have w2 : IntKind.i64.wrap ((l0.length : Int) - 0) = (l0.length : Int) := by rw [wrI _ (by omega) (by omega)]; omega
 have c12 : (l0.length : Int) <= 12 := by omega
 simp only [zZ, zY, q_b, q_f, q_i, q_l, q_m, q_B, q_U, q_W, ev, qb_p, qb_q, xbin, ibin, qb_A, qb_B, resV, qb_D, if_true, if_false, reduceCtorEq, Nat.reduceEqDiff, Nat.reduceLT, w2, c12, decide_true]
 refine yiS hsz lt g I n0 l0 hall hg hI v H _ (by omega) hn hi ho ?_
 intro H' o' s' i'
 exact hq H' o' s' i'
theorem yiB {α : Type} {S : LS α} (hsz : S.sz = 2) (lt : α -> α -> Bool) (g : Value) (I : AH -> Prop) (n0 : Nat) (l0 : List α) (hall : ∀ a ∈ l0, (S.f a).all one = true)
  (hg : ∀ a b H (Q : Value -> AH -> Prop), a ∈ l0 -> b ∈ l0 -> I H -> (∀ H' c, HExt H H' -> I H' -> (c < 0 ↔ lt a b = true) -> Q (.int .i64 c) H') -> Got (pCallV (xc Tryz.prog tab) g [.agg (S.f a).toArray, .agg (S.f b).toArray] H) Q)
  (hI : ∀ H H', I H -> Keep n0 H H' -> I H') (v : Value) (H : AH) (Q : Value -> AH -> Prop) (hl : l0.length <= 12) (hn : n0 <= H.n) (hi : I H) (ho : OL S n0 H v l0)
  (hq : ∀ H', OL S n0 H' v (isortP lt l0 (l0.length - 1)) -> Stp v H v H' -> I H' -> Q undef H') :
  Got (xc Tryz.prog tab 52 [v, g] H) Q := by
 refine yac (res := []) rfl ?_
 have lv := SL.len_ok ho.1
 have w1 := wrUu l0.length (by omega)
 obtain ⟨c, hc⟩ := len_ok l0.length (by omega) H
 simp only [zZ, zY, ofArgs, q_n, q_U, q_X, qb_f, ev, qb_p, qb_q, qb_A, qb_B, resV, qb_D, if_true, if_false, reduceCtorEq, Nat.reduceEqDiff, Nat.reduceLT, Nat.zero_add, lv, pConv, w1, hc]
 refine yac (res := []) rfl ?_
 simp only [zZ, zY, ofArgs, q_b, ev, if_true, if_false, reduceCtorEq, Nat.reduceEqDiff, Nat.reduceLT, Nat.zero_add, Nat.reduceAdd]
 rw [ybd]
 generalize hL : XCode.loop yaI = LL
 unfold yaI
 generalize hTT : ((.seq (.seq (.ops (⟨some 31, _, _⟩ :: _) _) _) _) : XCode) = TT
 have w2 : IntKind.i64.wrap ((l0.length : Int) - 0) = (l0.length : Int) := by rw [wrI _ (by omega) (by omega)]; omega
 have c12 : (l0.length : Int) <= 12 := by omega
 simp only [zZ, zY, q_b, q_f, q_i, q_l, q_m, q_B, q_U, q_W, ev, qb_p, qb_q, xbin, ibin, qb_A, qb_B, resV, qb_D, if_true, if_false, reduceCtorEq, Nat.reduceEqDiff, Nat.reduceLT, w2, c12, decide_true]
 refine yjD hsz lt g I n0 l0 hall hg hI v H _ (by omega) hn hi ho ?_
 intro H' o' s' i'
 exact hq H' o' s' i'
def cmpI (p q : List Int × Nat) : Bool := decide (Lib.compareBytes (sB p.1).data.toList (sB q.1).data.toList < 0)
theorem yqi (a b : List Int) (H : AH) : xc Tryz.prog tab 86 [.string (sB a), .string (sB b)] H = some (.int .i64 (Lib.compareBytes (sB a).data.toList (sB b).data.toList), H) := by
 have hT : tab 86 = some (.prim gCompare) := rfl
 unfold xc ya3
 rw [hT]
 rfl
theorem ylH (p q : List Int × Nat) (H : AH) (Q : Value -> AH -> Prop) (hq : ∀ H' c, HExt H H' -> (c < 0 ↔ cmpI p q = true) -> Q (.int .i64 c) H') :
  Got (pCallV (xc Tryz.prog tab) (.func (.func 85) #[] #[]) [.agg #[.string (sB p.1), .int .i64 (p.2 : Int)], .agg #[.string (sB q.1), .int .i64 (q.2 : Int)]] H) Q := by
 rw [yeu]
 refine yac (res := [.tmp 4]) rfl ?_
 have vA : vcells (.agg #[.string (sB p.1), .int .i64 (p.2 : Int)]) = [.string (sB p.1), .int .i64 (p.2 : Int)] := rfl
 have vB : vcells (.agg #[.string (sB q.1), .int .i64 (q.2 : Int)]) = [.string (sB q.1), .int .i64 (q.2 : Int)] := rfl
 have b1 := Bx.new H [.string (sB p.1), .int .i64 (p.2 : Int)]
 have x1 := yab H ⟨[.string (sB p.1), .int .i64 (p.2 : Int)], 1, false, false⟩
 have b2 := Bx.new (H.push ⟨[.string (sB p.1), .int .i64 (p.2 : Int)], 1, false, false⟩) [.string (sB q.1), .int .i64 (q.2 : Int)]
 have x2 := yab (H.push ⟨[.string (sB p.1), .int .i64 (p.2 : Int)], 1, false, false⟩) ⟨[.string (sB q.1), .int .i64 (q.2 : Int)], 1, false, false⟩
 generalize hTT : ((.seq (.ops (⟨some 5, _, _⟩ :: _) _) _) : XCode) = TT
 simp only [zZ, zY, ofArgs, qb_j, ev, if_true, if_false, reduceCtorEq, Nat.reduceEqDiff, Nat.reduceLT, Nat.zero_add, vA, vB]
 have l1 := (b1.ext x2).ld 0 _ rfl
 have l2 := b2.ld 0 _ rfl
 have x12 := x1.trans x2
 generalize (H.push ⟨[.string (sB p.1), .int .i64 (p.2 : Int)], 1, false, false⟩).push ⟨[.string (sB q.1), .int .i64 (q.2 : Int)], 1, false, false⟩ = H2 at *
 have cm := yqi p.1 q.1 H2
 subst hTT
 simp only [zZ, zY, q_f, q_m, q_U, v_ld, qb_h, ev, qb_p, qb_q, qb_A, qb_B, qb_C, resV, qb_D, if_true, if_false, Nat.reduceEqDiff, Nat.reduceLT, fldAk, l1, l2, cm]
 exact hq H2 _ x12 (by unfold cmpI; rw [decide_eq_true_eq])
theorem ykY : ∀ a b : List UInt8, Op.bytesLess a b = true -> ¬ Lib.compareBytes b a < 0
 | _, [], h => by simp [Op.bytesLess] at h
 | [], y :: b, _ => by simp [Lib.compareBytes]
 | x :: a, y :: b, h => by
  simp only [Op.bytesLess, Bool.or_eq_true, decide_eq_true_eq, Bool.and_eq_true, beq_iff_eq] at h
  rw [Lib.compareBytes]
  rcases h with h | ⟨rfl, h⟩
  ·have h2 : ¬ y < x := fun h3 => by
    have a1 := UInt8.lt_iff_toNat_lt.1 h
    have a2 := UInt8.lt_iff_toNat_lt.1 h3
    omega
   rw [if_neg h2, if_pos h]; decide
  ·have h2 : ¬ x < x := fun h3 => by
    have a2 := UInt8.lt_iff_toNat_lt.1 h3
    omega
   rw [if_neg h2, if_neg h2]
   exact ykY a b h
theorem ypB {its : List (List Int × Nat)} (h : Srt its) (i : Nat) : isortP cmpI its i = its := by
 refine yjC cmpI its (fun j a b ha hb => ?_) i
 have := ykY _ _ (h j a b ha hb)
 unfold cmpI
 rw [<- yg8, <- yg8]
 exact decide_eq_false this
theorem ylY (its : List (List Int × Nat)) (hs : Srt its) (hl : its.length <= 12) (n0 : Nat) (v : Value) (H : AH) (Q : Value -> AH -> Prop) (hn : n0 <= H.n) (ho : OL ITS n0 H v its) (hq : ∀ H', OL ITS n0 H' v its -> Stp v H v H' -> Q undef H') :
  Got (xc Tryz.prog tab 84 [v, .func (.func 85) #[] #[]] H) Q := by
 refine yhu yep cmpI _ (fun _ => True) n0 its (fun a _ => rfl) (fun a b H Q _ _ _ hq => ?_) (fun _ _ _ _ => trivial) v H Q hl hn trivial ho ?_
 ·exact ylH a b H Q fun H' c x hc => hq H' c x trivial hc
 ·intro H' o s _
  rw [ypB hs] at o
  exact hq H' o s
def RUNS : LS (Nat × Nat) := ⟨2, fun p => [.int .i64 (p.1 : Int), .int .i64 (p.2 : Int)], fun _ => rfl, by decide⟩
theorem ycc : RUNS.sz = 2 := rfl
def cmpR (p q : Nat × Nat) : Bool := decide ((q.2 : Int) - (p.2 : Int) < 0)
theorem ynQ (p q : Nat × Nat) (hp : p.2 < 100000) (hq2 : q.2 < 100000) (H : AH) (Q : Value -> AH -> Prop) (hq : ∀ H' c, HExt H H' -> (c < 0 ↔ cmpR p q = true) -> Q (.int .i64 c) H') :
  Got (pCallV (xc Tryz.prog tab) (.func (.func 95) #[] #[]) [.agg #[.int .i64 (p.1 : Int), .int .i64 (p.2 : Int)], .agg #[.int .i64 (q.1 : Int), .int .i64 (q.2 : Int)]] H) Q := by
 rw [yeu]
 refine yac (res := [.tmp 4]) rfl ?_
 have vA : vcells (.agg #[.int .i64 (p.1 : Int), .int .i64 (p.2 : Int)]) = [.int .i64 (p.1 : Int), .int .i64 (p.2 : Int)] := rfl
 have vB : vcells (.agg #[.int .i64 (q.1 : Int), .int .i64 (q.2 : Int)]) = [.int .i64 (q.1 : Int), .int .i64 (q.2 : Int)] := rfl
 have b1 := Bx.new H [.int .i64 (p.1 : Int), .int .i64 (p.2 : Int)]
 have x1 := yab H ⟨[.int .i64 (p.1 : Int), .int .i64 (p.2 : Int)], 1, false, false⟩
 have b2 := Bx.new (H.push ⟨[.int .i64 (p.1 : Int), .int .i64 (p.2 : Int)], 1, false, false⟩) [.int .i64 (q.1 : Int), .int .i64 (q.2 : Int)]
 have x2 := yab (H.push ⟨[.int .i64 (p.1 : Int), .int .i64 (p.2 : Int)], 1, false, false⟩) ⟨[.int .i64 (q.1 : Int), .int .i64 (q.2 : Int)], 1, false, false⟩
 generalize hTT : ((.seq (.ops (⟨some 5, _, _⟩ :: _) _) _) : XCode) = TT
 simp only [zZ, zY, ofArgs, qb_j, ev, if_true, if_false, reduceCtorEq, Nat.reduceEqDiff, Nat.reduceLT, Nat.zero_add, vA, vB]
 have l1 := (b1.ext x2).ld 1 _ rfl
 have l2 := b2.ld 1 _ rfl
 have x12 := x1.trans x2
 have hn1 : (H.push ⟨[.int .i64 (p.1 : Int), .int .i64 (p.2 : Int)], 1, false, false⟩).n = H.n + 1 := rfl
 rw [hn1] at l2 ⊢
 generalize (H.push ⟨[.int .i64 (p.1 : Int), .int .i64 (p.2 : Int)], 1, false, false⟩).push ⟨[.int .i64 (q.1 : Int), .int .i64 (q.2 : Int)], 1, false, false⟩ = H2 at *
 have p1 := yl8 2 H.n .i64 1 1 rfl (by omega) H2
 have p2 := yl8 2 (H.n + 1) .i64 1 1 rfl (by omega) H2
 have w := wrI ((q.2 : Int) - (p.2 : Int)) (by omega) (by omega)
 subst hTT
 simp only [zZ, zY, q_f, q_m, q_W, v_ld, ev, xbin, ibin, qb_A, qb_B, qb_C, resV, qb_D, if_true, if_false, Nat.reduceEqDiff, Nat.reduceLT, ygA, p1, p2, l1, l2, w]
 exact hq H2 _ x12 (by unfold cmpR; rw [decide_eq_true_eq])
theorem yjZ (l : List (Nat × Nat)) (hb : ∀ p ∈ l, p.2 < 100000) (hl : l.length < 20) (n0 : Nat) (v : Value) (H : AH) (Q : Value -> AH -> Prop) (hn : n0 <= H.n) (ho : OL RUNS n0 H v l) (hq : ∀ H' l', l'.Perm l -> OL RUNS n0 H' v l' -> Stp v H v H' -> Q undef H') :
  Got (xc Tryz.prog tab 94 [v, .func (.func 95) #[] #[]] H) Q := by
 refine yac (res := []) rfl ?_
 have lv := SL.len_ok ho.1
 simp only [zZ, zY, ofArgs, q_n, q_U, q_X, ev, qb_p, qb_q, qb_A, qb_B, resV, qb_D, if_true, if_false, reduceCtorEq, Nat.reduceEqDiff, Nat.reduceLT, Nat.zero_add, lv]
 refine yac (res := []) rfl ?_
 have c20 : ¬ (20 : Int) <= (l.length : Int) := by omega
 have c21 : ¬ (20 : Int) < (l.length : Int) := by omega
 simp only [zZ, zY, ofArgs, q_b, q_U, ev, qb_p, qb_q, if_true, if_false, reduceCtorEq, Nat.reduceEqDiff, Nat.reduceLT, Nat.zero_add, Nat.reduceAdd]
 rw [ybd]
 generalize hL : XCode.loop yaQ = LL
 unfold yaQ
 simp only [zZ, zY, q_b, q_e, q_h, q_j, q_k, q_C, q_U, q_W, ev, qb_p, qb_q, xbin, ibin, if_true, if_false, reduceCtorEq, Nat.reduceEqDiff, Nat.reduceLT, c20, decide_false]
 refine ymo ycc cmpR _ (fun _ => True) n0 l (fun a _ => rfl) (fun a b H Q ha hb' _ hq => ?_) (fun _ _ _ _ => trivial) v H _ (by omega) hn trivial ho ?_
 ·exact ynQ a b (hb a ha) (hb b hb') H Q fun H' c x hc => hq H' c x trivial hc
 ·intro H' o s _
  rw [ybd]
  generalize hL2 : XCode.loop yaP = L2
  unfold yaP
  simp only [zZ, zY, q_b, q_e, q_h, q_j, q_k, q_n, q_C, q_W, ev, xbin, ibin, qb_A, qb_B, resV, qb_D, if_true, if_false, reduceCtorEq, Nat.reduceEqDiff, Nat.reduceLT, c21, decide_false]
  exact hq H' _ (ybD cmpR l _) o s
variable {L : List (List Int)} {n0 : Nat} {H : AH} {v : Value} {vs : List Value}
def ndS (L : List (List Int)) (i off : Nat) (ws : List Int) : List (List Int) := L.set (2 + i / 8) (spI (L.getD (2 + i / 8) []) (16 * (i % 8) + off) ws)
theorem ya8 (i off : Nat) (ws : List Int) : (ndS L i off ws).length = L.length := by simp [ndS]
theorem yeG (i off : Nat) (ws : List Int) (q : Nat) (hq : q ≠ 2 + i / 8) : (ndS L i off ws)[q]? = L[q]? := by unfold ndS; rw [List.getElem?_set, if_neg (fun e => hq e.symm)]
theorem ykV (i off : Nat) (ws : List Int) (k : Nat) : usd (ndS L i off ws) k = usd L k := by
 have e : (ndS L i off ws).getD 1 [] = L.getD 1 [] := by rw [List.getD_eq_getElem?_getD, List.getD_eq_getElem?_getD, yeG i off ws 1 (by omega)]
 unfold usd
 rw [e]
theorem ykG (s : List Int) (o : Nat) (ws : List Int) (h : o + ws.length <= s.length) (i : Nat) : (spI s o ws)[i]? = if i < o then s[i]? else if i < o + ws.length then ws[i - o]? else s[i]? := yiA s o ws h i
theorem yjx (h8 : ∀ l ∈ L, SecOk l) (i off : Nat) (hk : 2 + i / 8 < L.length) (ws : List Int) (hw : off + ws.length <= 16) (hb : B8 ws) : ∀ l ∈ ndS L i off ws, SecOk l := by
 intro l hl
 rcases List.mem_or_eq_of_mem_set hl with h | rfl
 ·exact h8 l h
 ·rw [yaa (List.getElem?_eq_getElem hk)]
  have := h8 _ (List.getElem_mem hk)
  have hm := Nat.mod_lt i (by omega : 0 < 8)
  exact ⟨by rw [ydK _ _ _ (by rw [this.1]; omega)]; exact this.1, ylV _ this.2 hb⟩
theorem yfl (s : List Int) (o : Nat) (i : Nat) : ((s.drop o).take 16)[i]? = if i < 16 then s[o + i]? else none := by
 rw [List.getElem?_take, List.getElem?_drop]
theorem ygM (h8 : ∀ l ∈ L, SecOk l) (i off : Nat) (hk : 2 + i / 8 < L.length) (ws : List Int) (hw : off + ws.length <= 16) (j : Nat) : nod (ndS L i off ws) j = if j = i then spI (nod L i) off ws else nod L j := by
 have hl := (h8 _ (List.getElem_mem hk)).1
 have hm := Nat.mod_lt i (by omega : 0 < 8)
 have hmj := Nat.mod_lt j (by omega : 0 < 8)
 by_cases hd : 2 + j / 8 = 2 + i / 8
 ·have e1 : (ndS L i off ws).getD (2 + j / 8) [] = spI (L[2 + i / 8]'hk) (16 * (i % 8) + off) ws := by
   unfold ndS
   rw [hd, yaa (List.getElem?_eq_getElem hk)]
   exact yaa (by rw [List.getElem?_set, if_pos rfl, if_pos hk])
  have e2 : L.getD (2 + j / 8) [] = L[2 + i / 8]'hk := by rw [hd]; exact yaa (List.getElem?_eq_getElem hk)
  have e3 : L.getD (2 + i / 8) [] = L[2 + i / 8]'hk := yaa (List.getElem?_eq_getElem hk)
  have n16 : (nod L i).length = 16 := ycE L i h8 hk
  unfold nod at n16 ⊢
  rw [e1, e2, e3]
  rw [e3] at n16
  refine List.ext_getElem? fun k => ?_
  rw [yfl, ykG _ _ _ (by rw [hl]; omega)]
  by_cases he : j = i
  ·subst he
   rw [if_pos rfl, ykG _ _ _ (by rw [n16]; omega), yfl]
   by_cases hk16 : k < 16
   ·rw [if_pos hk16, if_pos hk16]
    by_cases h1 : k < off
    ·rw [if_pos (by omega), if_pos h1]
    ·rw [if_neg (by omega), if_neg h1]
     by_cases h2 : k < off + ws.length
     ·rw [if_pos (by omega), if_pos h2]
      congr 1; omega
     ·rw [if_neg (by omega), if_neg h2]
   ·rw [if_neg hk16, if_neg hk16, if_neg (by omega), if_neg (by omega)]
  ·rw [if_neg he, yfl]
   by_cases hk16 : k < 16
   ·rw [if_pos hk16, if_pos hk16]
    have hne : j % 8 ≠ i % 8 := by omega
    by_cases h1 : 16 * (j % 8) + k < 16 * (i % 8) + off
    ·rw [if_pos h1]
    ·rw [if_neg h1, if_neg (by omega)]
   ·rw [if_neg hk16, if_neg hk16]
 ·have hne : j ≠ i := fun e => hd (by rw [e])
  rw [if_neg hne]
  unfold nod
  rw [List.getD_eq_getElem?_getD, List.getD_eq_getElem?_getD, yeG i off ws _ hd]
def SlV (vs : List Value) (i : Nat) (s : Value) : Prop := ∃ x B o c c', vs[2 + i / 8]? = some x /\ x = .slice (some ⟨B, o, none⟩) 128 c /\ s = .slice (some ⟨B, o + 16 * (i % 8), none⟩) 16 c' /\ 16 <= c' /\ 16 * (i % 8) + c' = c
theorem SlV.byts {i : Nat} {s : Value} (h : SlV vs i s) (d : Dk n0 L.length H v vs L) (h8 : ∀ l ∈ L, SecOk l) (hk : 2 + i / 8 < L.length) : Byts H s (nod L i) := by
 obtain ⟨x, B, o, c, c', h1, rfl, rfl, h2, h3⟩ := h
 have hl := (h8 _ (List.getElem_mem hk)).1
 have hb := d.byt _ _ _ h1 (List.getElem?_eq_getElem hk)
 have hm := Nat.mod_lt i (by omega : 0 < 8)
 unfold nod
 rw [yaa (List.getElem?_eq_getElem hk)]
 have hb' : Byts H (.slice (some ⟨B, o, none⟩) (L[2 + i / 8]'hk).length c) (L[2 + i / 8]'hk) := by rw [hl]; exact hb
 exact yiZ hb' (by omega) (by omega) h2 h3
theorem SlV.set {i : Nat} {s : Value} (h : SlV vs i s) (d : Dk n0 L.length H v vs L) (h8 : ∀ l ∈ L, SecOk l) (hk : 2 + i / 8 < L.length) (j : Nat) (hj : j < 16) (b : Int) {Q : Value -> AH -> Prop}
  (hq : ∀ H', Dk n0 L.length H' v vs (ndS L i j [b]) -> Frm vs H H' -> Q undef H') : Got (pSt 1 (ptrAt s j) (.int .u8 b) H) Q := by
 obtain ⟨x, B, o, c, c', h1, rfl, rfl, h2, h3⟩ := h
 have hl := (h8 _ (List.getElem_mem hk)).1
 have hm := Nat.mod_lt i (by omega : 0 < 8)
 have e : ptrAt (.slice (some ⟨B, o + 16 * (i % 8), none⟩) 16 c') j = ptrAt (.slice (some ⟨B, o, none⟩) 128 c) (16 * (i % 8) + j) := by
  show Value.pointer (some ⟨B, o + 16 * (i % 8) + j, none⟩) = .pointer (some ⟨B, o + (16 * (i % 8) + j), none⟩)
  rw [Nat.add_assoc]
 rw [e]
 refine ydU d (2 + i / 8) (16 * (i % 8) + j) _ _ h1 (List.getElem?_eq_getElem hk) (by omega) b ?_
 intro H' d' s' _
 refine hq H' ?_ (Frm.stp h1 s')
 have hs : (L[2 + i / 8]'hk).set (16 * (i % 8) + j) b = spI (L[2 + i / 8]'hk) (16 * (i % 8) + j) [b] := by
  rw [List.set_eq_take_append_cons_drop, if_pos (by omega)]
  unfold spI
  simp
 unfold ndS
 rw [yaa (List.getElem?_eq_getElem hk), <- hs]
 exact d'
theorem SlV.clr {i : Nat} {s : Value} (h : SlV vs i s) (d : Dk n0 L.length H v vs L) (h8 : ∀ l ∈ L, SecOk l) (hk : 2 + i / 8 < L.length) (off : Nat) (ho : off <= 16) :
  ∃ s' H', xslc H 1 s (some (.int .i64 (off : Int))) none none = some s' /\ xclr H 1 [.int .u8 0] s' = some (.tuple #[], H') /\ Dk n0 L.length H' v vs (ndS L i off (List.replicate (16 - off) 0)) /\ Frm vs H H' := by
 have hb := h.byts d h8 hk
 have hn16 := ycE L i h8 hk
 obtain ⟨x, B, o, c, c', h1, rfl, rfl, h2, h3⟩ := h
 have hl := (h8 _ (List.getElem_mem hk)).1
 have hm := Nat.mod_lt i (by omega : 0 < 8)
 have hb' : Sl H 1 (.slice (some ⟨B, o + 16 * (i % 8), none⟩) 16 c') 16 ((nod L i).map (.int .u8)) := by
  have := hb
  unfold Byts at this
  rw [hn16] at this
  exact this
 obtain ⟨s', k1, k2, k3, k4, B', o', d1, d2, k5, k6, k7, k8⟩ := yed (lo := some (.int .i64 (off : Int))) (hi := none) (i := off) (h := 16) hb' (by omega) rfl rfl ho (Nat.le_refl _)
 cases k5
 obtain ⟨blk, g1, g2, g3, dB, sB', _⟩ := yg4 d (2 + i / 8) _ _ h1 (List.getElem?_eq_getElem hk) B o c (by rw [hl]) (16 * (i % 8) + off) (List.replicate (16 - off) 0) (by rw [hl, List.length_replicate]; omega)
 have hr : rep (16 - off) [Value.int .u8 0] = (List.replicate (16 - off) (0 : Int)).map (Value.int .u8) := ykL (16 - off)
 have xc := yon (sz := 1) (o := o + 16 * (i % 8) + off * 1) (l := 16 - off) (c := d2) (zs := [.int .u8 0]) g1 g2 (by omega) (by rw [hr]; simp [one])
 rw [hr, Nat.mul_one, Nat.add_assoc] at xc
 rw [Nat.mul_one, Nat.add_assoc] at k6
 refine ⟨s', _, k1, ?_, ?_, Frm.stp h1 sB'⟩
 ·rw [k6]
  exact xc
 ·unfold ndS
  rw [yaa (List.getElem?_eq_getElem hk)]
  exact dB
theorem yiC (T S : Int) {i : Nat} (d : Dk n0 L.length H v vs L) (h8 : ∀ l ∈ L, SecOk l) (hk : 2 + i / 8 < L.length) (hi : i < 100) (Q : Value -> AH -> Prop) (hq : ∀ H' s, HExt H H' -> SlV vs i s -> Q s H') :
  Got (xc Tryz.prog tab 37 [.agg #[.int .i64 T, .int .i64 S, v], .int .i64 (i : Int)] H) Q := by
 have x := yab H ⟨[.int .i64 T, .int .i64 S, v], 1, false, false⟩
 have dA := d.ext x
 obtain ⟨y, y1, y2⟩ := dA.get2 (2 + i / 8) hk
 have hl := (h8 _ (List.getElem_mem hk)).1
 refine yfe T S v y _ i hi H Q (yau dA.own.1 .i64 ((2 + i / 8 : Nat) : Int) (2 + i / 8) rfl hk) (yaV dA.own.1 (2 + i / 8) y y1) (dA.byt _ _ _ y1 y2) hl ?_
 rintro H' s' rfl _ _ _ ⟨B, o, c, c', rfl, rfl, g1, g2⟩
 exact hq _ _ x ⟨_, B, o, c, c', y1, rfl, rfl, g1, g2⟩
end Go.Proofs.YtnjjnnfpnjjccaaGreatDoor.D
set_option linter.unusedSimpArgs false
set_option linter.unusedVariables false
namespace Go.Proofs.YtnjjnnfpnjjccaaGreatDoor.D
open Go Go.Det
variable {L : List (List Int)} {n0 : Nat} {H : AH} {v : Value} {vs : List Value}
theorem yhZ {L L' : List (List Int)} {i : Nat} (h : L'[2 + i / 8]? = L[2 + i / 8]?) : nod L' i = nod L i := by
 unfold nod
 rw [List.getD_eq_getElem?_getD, List.getD_eq_getElem?_getD, h]
structure Mrk (L L' : List (List Int)) (cs : List Int) (is : Bool) : Prop where
 len : L'.length = L.length
 h8 : ∀ l ∈ L', SecOk l
 sec : ∀ q : Nat, q ≠ 1 -> L'[q]? = L[q]?
 us : ∀ k, k < 1024 -> usd L' k = if (cs.contains (k : Int)) then is else usd L k
theorem Mrk.nil (h8 : ∀ l ∈ L, SecOk l) (is : Bool) : Mrk L L [] is := ⟨rfl, h8, fun _ _ => rfl, fun k _ => by simp⟩
theorem Mrk.step {L' : List (List Int)} {cs : List Int} {is : Bool} (h : Mrk L L' cs is) (hL : 1 < L.length) (c : Nat) (hc : c < 1024) : Mrk L (mrkL L' c is) (cs ++ [(c : Int)]) is := by
 obtain ⟨a1, a2⟩ := yka L' c is h.h8 (by rw [h.len]; exact hL) hc
 refine ⟨by rw [yfV, h.len], a1, fun q hq => by rw [ydS _ _ _ _ hq, h.sec q hq], fun k hk => ?_⟩
 rw [a2 k hk, h.us k hk]
 have e : (cs ++ [(c : Int)]).contains (k : Int) = (cs.contains (k : Int) || decide (k = c)) := by
  rw [Bool.eq_iff_iff, Bool.or_eq_true, List.contains_iff_mem, List.contains_iff_mem, List.mem_append, List.mem_singleton, decide_eq_true_eq]
  exact or_congr Iff.rfl ⟨fun h => by omega, fun h => by omega⟩
 rw [e]
 by_cases h1 : k = c
 ·rw [if_pos h1, decide_eq_true h1, Bool.or_true, if_pos rfl]
 ·rw [if_neg h1, decide_eq_false h1, Bool.or_false]
theorem Mrk.nod {L' : List (List Int)} {cs : List Int} {is : Bool} (h : Mrk L L' cs is) (i : Nat) : D.nod L' i = D.nod L i := yhZ (h.sec _ (by omega))
structure Fre (L L' : List (List Int)) (i : Nat) (cs : List Int) : Prop where
 len : L'.length = L.length
 h8 : ∀ l ∈ L', SecOk l
 sec : ∀ q : Nat, q ≠ 1 -> q ≠ 2 + i / 8 -> L'[q]? = L[q]?
 us : ∀ k, k < 1024 -> usd L' k = if (cs.contains (k : Int)) then false else usd L k
 nod : ∀ j, D.nod L' j = if j = i then spI (D.nod L i) 2 (List.replicate 14 0) else D.nod L j
theorem ym1 (n : Nat) : B8 (List.replicate n 0) := fun b hb => by rw [(List.mem_replicate.1 hb).2]; omega
theorem Mrk.fre {L' : List (List Int)} {cs : List Int} (h : Mrk L L' cs false) (i : Nat) (hk : 2 + i / 8 < L.length) : Fre L (ndS L' i 2 (List.replicate (16 - 2) 0)) i cs := by
 have hk' : 2 + i / 8 < L'.length := by rw [h.len]; exact hk
 refine ⟨by rw [ya8, h.len], yjx h.h8 i 2 hk' _ (by simp) (ym1 _), fun q h1 h2 => by rw [yeG _ _ _ q h2, h.sec q h1], fun k hk => by rw [ykV, h.us k hk], fun j => ?_⟩
 rw [ygM h.h8 i 2 hk' _ (by simp) j, h.nod, h.nod]
theorem Dk.fresh (d : Dk n0 L.length H v vs L) (b : Nat) (hb : H.n <= b) : ∀ (i : Nat) (x : Value), vs[i]? = some x -> ¬ inB x b := fun i x hx h => by have := d.lt i x hx h; omega
theorem ynE {A B : AH} {w : Value} {cs : List Int} (f : Frm vs A B) (hw : Ints A w cs) (hn : ∀ b, inB w b -> ∀ (i : Nat) (x : Value), vs[i]? = some x -> ¬ inB x b) : Ints B w cs :=
 Sl.same hw f.n fun b hb => f.get b (hw.lt b hb) (hn b hb)
set_option maxHeartbeats 8000000 in
theorem yo5 (T S : Int) {i : Nat} {ps : List (Nat × Nat)} (d : Dk n0 L.length H v vs L) (h8 : ∀ l ∈ L, SecOk l) (h6 : 6 < L.length) (hN : L.length <= 240) (hi : i < 32) (hp : PcOk L.length (nod L i) ps) (Q : Value -> AH -> Prop)
  (hq : ∀ H' L', Dk n0 L.length H' v vs L' -> Frm vs H H' -> Fre L L' i (chP ps) -> Q undef H') : Got (xc Tryz.prog tab 39 [.agg #[.int .i64 T, .int .i64 S, v], .int .i64 (i : Int)] H) Q := by
 have hk : 2 + i / 8 < L.length := by omega
 refine yac (res := []) rfl ?_
 have vA : vcells (.agg #[.int .i64 T, .int .i64 S, v]) = [.int .i64 T, .int .i64 S, v] := rfl
 have b := Bx.new H [.int .i64 T, .int .i64 S, v]
 have x := yab H ⟨[.int .i64 T, .int .i64 S, v], 1, false, false⟩
 have hHn : (H.push ⟨[.int .i64 T, .int .i64 S, v], 1, false, false⟩).n = H.n + 1 := rfl
 have hE := Dk.fresh d H.n (Nat.le_refl _)
 generalize hTT : ((.seq (.ops (⟨some 9, _, _⟩ :: _) _) _) : XCode) = TT
 simp only [zZ, zY, ofArgs, qb_j, ev, if_true, if_false, reduceCtorEq, Nat.reduceEqDiff, Nat.reduceLT, Nat.zero_add, vA]
 generalize H.push ⟨[.int .i64 T, .int .i64 S, v], 1, false, false⟩ = H1 at *
 have ldn := b.ldn 3 rfl
 subst hTT
 generalize hTT : ((.seq (.ops (⟨some 13, _, _⟩ :: _) _) _) : XCode) = TT
 simp only [zZ, zY, q_U, v_ld, ev, qb_p, qb_q, if_true, if_false, Nat.reduceEqDiff, Nat.reduceLT, ldn]
 refine yiC T S (d.ext x) h8 hk (by omega) _ ?_
 intro H2 s x2 sv
 have b2 := b.ext x2
 have l2 := b2.ldn 3 rfl
 have d2 := (d.ext x).ext x2
 subst hTT
 generalize hTT : ((.seq (.seq (.ops (⟨some 18, _, _⟩ :: _) _) _) _) : XCode) = TT
 simp only [zZ, zY, q_U, q_Y, v_ld, ev, qb_p, qb_q, if_true, if_false, Nat.reduceEqDiff, Nat.reduceLT, l2]
 refine yfj T S v s L (nod L i) ps H2 _ d2.secs hN (sv.byts d2 h8 hk) hp ?_
 intro w H3 ow x3
 have lw := yct ow.1
 have hwl := ow.1
 have hrg := ykm hp
 have hcl := ykn hp 4
 rw [List.take_of_length_le hp.n4] at hcl
 have hcl2 : 4 * L.length <= 4 * 240 := Nat.mul_le_mul (Nat.le_refl _) hN
 have b3 := b2.ext x3
 have d3 := d2.ext x3
 have hwf : ∀ b, inB w b -> ∀ (i : Nat) (x : Value), vs[i]? = some x -> ¬ inB x b := fun b hb => Dk.fresh d2 b (Own.geB ow hb)
 subst hTT
 generalize hTT : ((.ops (⟨some 28, _, _⟩ :: _) _) : XCode) = TT
 simp only [zZ, zY, q_b, q_P, q_Q, q_X, ev, if_true, if_false, Nat.reduceEqDiff, Nat.reduceLT, lw]
 generalize hcs : chP ps = cs at *
 refine yaz (fun m fr H' => ∃ Lm, Dk n0 L.length H' v vs Lm /\ Frm vs H3 H' /\ Mrk L Lm (cs.take m) false /\ fr = [(2, .pointer (some ⟨H.n, 0, none⟩)), (4, s), (18, w), (19, .int .i64 (cs.length : Int)), (20, .int .i64 (m : Int))]) cs.length ⟨L, d3, Frm.refl _ _, Mrk.nil h8 false, rfl⟩ ?_ ?_
 ·rintro m hm fr H4 ⟨Lm, d4, f4, mk, rfl⟩ J hJ
  obtain ⟨c, hc⟩ : ∃ c, cs[m]? = some c := ⟨_, List.getElem?_eq_getElem hm⟩
  have hr := hrg c (List.mem_of_getElem? hc)
  obtain ⟨q, rfl⟩ : ∃ q : Nat, c = (q : Int) := ⟨c.toNat, by omega⟩
  have hw4 := ynE f4 hwl hwf
  have i1 := ydT hw4 (m : Int) m rfl hm
  have i2 := yeH hw4 m _ hc
  have b4 := f4.bx b3 hE
  have l4 := b4.ldn 3 rfl
  have hlt : (m : Int) < (cs.length : Int) := by omega
  have w3 := wrS m (by omega)
  simp only [zZ, zY, ydB, q_b, q_d, q_j, q_B, q_U, q_W, q_Z, v_ld, ev, qb_p, qb_q, xbin, ibin, if_true, if_false, Nat.reduceEqDiff, Nat.reduceLT, hlt, decide_true, i1, i2, l4]
  refine yiw T S v vs Lm n0 q false H4 _ (by rw [mk.len]; exact d4) mk.h8 (by rw [mk.len]; omega) (by omega) ?_
  intro H5 uu d5 f5
  simp only [w3]
  refine hJ _ _ ⟨_, by rw [mk.len] at d5; exact d5, f4.trans f5, ?_, rfl⟩
  rw [yal _ _ _ hc]
  exact mk.step (by omega) q (by omega)
 ·rintro fr H4 ⟨Lm, d4, f4, mk, rfl⟩
  rw [List.take_length] at mk
  have d4' : Dk n0 Lm.length H4 v vs Lm := by rw [mk.len]; exact d4
  obtain ⟨s', H5, k1, k2, d5, f5⟩ := sv.clr d4' mk.h8 (by rw [mk.len]; exact hk) 2 (by omega)
  rw [mk.len] at d5
  have k1' : xslc H4 1 s (some (.int .i64 2)) none none = some s' := k1
  subst hTT
  simp only [zZ, zY, ydB, q_b, q_e, q_h, q_j, q_k, q_n, q_C, q_L, q_M, q_N, Bool.false_and, zD, cond_false, q_U, q_W, q_Z, v_ld, qb_e, ev, qb_p, qb_q, qb_v, xbin, ibin, qb_A, qb_B, resV, qb_D, if_true, if_false, Nat.reduceEqDiff, Nat.reduceLT, Int.lt_irrefl, decide_false, k1', v_clr, k2]
  exact hq H5 _ d5 ((Frm.ext (x.trans (x2.trans x3))).trans (f4.trans f5)) (mk.fre i hk)
end Go.Proofs.YtnjjnnfpnjjccaaGreatDoor.D
set_option linter.unusedSimpArgs false
set_option linter.unusedVariables false
namespace Go.Proofs.YtnjjnnfpnjjccaaGreatDoor.D
open Go Go.Det
variable {L : List (List Int)} {n0 : Nat} {H : AH} {v : Value} {vs : List Value}
theorem yfn {H : AH} {sz n m : Nat} {s : Value} {cs : List Value} (h : Sl H sz s n cs) (hn : 0 < n) (i : Int) (j : Nat) (hi : i = (j : Int)) (hj : j < 2) : pIaa 2 1 (ptrAt s m) (.int .i64 i) H = some (ptrAt s (m + j), H) := by
 obtain ⟨B, o, c, blk, rfl, _⟩ := h.live hn
 subst hi
 show (bif Nat.blt j 2 then some (Value.pointer (some ⟨B, o + m + j * 1, none⟩), H) else none) = some (.pointer (some ⟨B, o + (m + j), none⟩), H)
 rw [yjP hj, cond_true, Nat.mul_one, Nat.add_assoc]
theorem yoQ {α : Type} {S : LS α} {n0 : Nat} {H : AH} {v : Value} {l : List α} (ho : OL S n0 H v l) (k : Nat) (a a' : α) (hk : l[k]? = some a) (off : Nat) (hoff : off < S.sz) (x : Value) (h1 : one x = true) (h2 : vcells x = [x]) (ha : S.f a' = (S.f a).set off x) {Q : Value -> AH -> Prop} (hq : ∀ H', OL S n0 H' v (l.set k a') -> Stp v H v H' -> Q undef H') : Got (pSt 1 (ptrAt v (k * S.sz + off)) x H) Q := by
 obtain ⟨hkl, e⟩ := List.getElem?_eq_some_iff.1 hk
 have hm : (k + 1) * S.sz <= l.length * S.sz := Nat.mul_le_mul_right _ hkl
 rw [Nat.add_mul, Nat.one_mul] at hm
 obtain ⟨B, o, c, blk, rfl, hb, hro, hle, o2, s2⟩ := ygJ (vs := [x]) ho (by omega) (k * S.sz + off) (by simp; omega)
 refine ⟨undef, _, ?_, hq _ ?_ s2⟩
 ·show ((H.get B).bind fun blk => bif Nat.beq (vcells x).length 1 && (vcells x).all one && !blk.ro && Nat.ble (o + (k * S.sz + off) + 1) blk.cells.length then some (undef, H.set B { blk with cells := splice blk.cells (o + (k * S.sz + off)) (vcells x) }) else none) = _
  have c2 : Nat.ble (o + (k * S.sz + off) + 1) blk.cells.length = true := ybF (by omega)
  rw [hb, h2]
  simp only [zB, c2, List.all_cons, List.all_nil, h1, hro]
  rfl
 ·unfold OL
  rw [List.length_set, LS.cells_set S l k a' hkl]
  have hcl : (S.cells l).length = l.length * S.sz := LS.cells_len l
  have : splice (S.cells l) (k * S.sz) (S.f a') = splice (S.cells l) (k * S.sz + off) [x] := by
   refine List.ext_getElem? fun i => ?_
   rw [yeh _ _ _ (by rw [S.len, hcl]; omega), yeh _ _ _ (by rw [hcl]; simp; omega), S.len, ha]
   have hcell : ∀ j y, (S.f a)[j]? = some y -> (S.cells l)[k * S.sz + j]? = some y := fun j y hy => LS.cells_at S l k a hk j y hy
   by_cases h1 : i < k * S.sz
   ·rw [if_pos h1, if_pos (by omega)]
   ·rw [if_neg h1]
    by_cases h2 : i < k * S.sz + S.sz
    ·rw [if_pos h2]
     obtain ⟨j, rfl⟩ : ∃ j, i = k * S.sz + j := ⟨i - k * S.sz, by omega⟩
     rw [Nat.add_sub_cancel_left, List.getElem?_set]
     have hjs : j < (S.f a).length := by rw [S.len]; omega
     by_cases h3 : off = j
     ·subst h3
      rw [if_pos rfl, if_pos hjs, if_neg (by omega), if_pos (by simp)]
      simp
     ·rw [if_neg h3]
      have hc := hcell j _ (List.getElem?_eq_getElem hjs)
      rw [List.getElem?_eq_getElem hjs]
      by_cases h4 : j < off
      ·rw [if_pos (by omega), hc]
      ·rw [if_neg (by omega), if_neg (by simp; omega), hc]
    ·rw [if_neg h2, if_neg (by omega), if_neg (by simp; omega)]
  rw [this]
  exact o2
def freeS (L : List (List Int)) (n : Nat) : List Int := (((List.range n).drop 6).filter fun i => !usd L i).map fun i : Nat => (i : Int)
theorem yfr (L : List (List Int)) (n : Nat) (hn : 6 <= n) : freeS L (n + 1) = freeS L n ++ (if usd L n then [] else [(n : Int)]) := by
 unfold freeS
 rw [List.range_succ, List.drop_append_of_le_length (by simp; omega), List.filter_append, List.map_append]
 congr 1
 cases h : usd L n <;> simp [h]
structure RnOk (L : List (List Int)) (i : Nat) (rs : List (Nat × Nat)) : Prop where
 ch : chP rs = freeS L i
 rg : ∀ p ∈ rs, 6 <= p.1 /\ 1 <= p.2 /\ p.1 + p.2 <= i
 b1 : 2 * rs.length <= i - 6 + 1
 b2 : (∀ p, rs[rs.length - 1]? = some p -> p.1 + p.2 ≠ i) -> 2 * rs.length <= i - 6
theorem RnOk.used {i : Nat} {rs : List (Nat × Nat)} (h : RnOk L i rs) (hi : 6 <= i) (hu : usd L i = true) : RnOk L (i + 1) rs := by
 refine ⟨by rw [yfr L i hi, hu, if_pos rfl, List.append_nil]; exact h.ch, fun p hp => by have := h.rg p hp; omega, by have := h.b1; omega, fun _ => by have := h.b1; omega⟩
theorem ynf (rs : List (Nat × Nat)) (p q : Nat × Nat) (h : rs[rs.length - 1]? = some p) : ∃ r, rs = r ++ [p] /\ rs.set (rs.length - 1) q = r ++ [q] /\ r.length = rs.length - 1 := by
 obtain ⟨h1, e⟩ := List.getElem?_eq_some_iff.1 h
 have hne : rs ≠ [] := fun e => by rw [e] at h1; simp at h1
 have e2 : rs = rs.take (rs.length - 1) ++ [p] := by
  have h3 : rs.take (rs.length - 1 + 1) = rs.take (rs.length - 1) ++ [p] := yal _ _ _ h
  rw [Nat.sub_add_cancel (by omega), List.take_length] at h3
  exact h3
 have hlen : (rs.take (rs.length - 1)).length = rs.length - 1 := by rw [List.length_take]; omega
 refine ⟨_, e2, ?_, hlen⟩
 generalize hr : rs.take (rs.length - 1) = r at *
 rw [<- hlen, e2, List.set_append_right _ _ (Nat.le_refl _), Nat.sub_self]; rfl
theorem RnOk.more {i : Nat} {rs : List (Nat × Nat)} (h : RnOk L i rs) (hi : 6 <= i) (hu : usd L i = false) {p : Nat × Nat} (hp : rs[rs.length - 1]? = some p) (he : p.1 + p.2 = i) : RnOk L (i + 1) (rs.set (rs.length - 1) (p.1, p.2 + 1)) := by
 obtain ⟨r, e1, e2, e3⟩ := ynf rs p (p.1, p.2 + 1) hp
 have hb := h.b1
 have hpr := h.rg p (List.mem_of_getElem? hp)
 rw [e2]
 have hl : (r ++ [(p.1, p.2 + 1)]).length = rs.length := by rw [e1]; simp
 refine ⟨?_, fun q hq => ?_, by rw [hl]; omega, fun hn => ?_⟩
 ·rw [yfr L i hi, hu, <- h.ch]
  have : chP rs = chP r ++ rngP p.1 p.2 := by rw [e1, yes]
  rw [this, yes, ygH, he, List.append_assoc]; rfl
 ·rcases List.mem_append.1 hq with h1 | h1
  ·have := h.rg q (by rw [e1]; simp [h1]); omega
  ·rw [List.mem_singleton.1 h1]
   show 6 <= p.1 /\ 1 <= p.2 + 1 /\ p.1 + (p.2 + 1) <= i + 1
   omega
 ·exfalso
  refine hn (p.1, p.2 + 1) ?_ (by show p.1 + (p.2 + 1) = i + 1; omega)
  rw [List.length_append, List.length_singleton, Nat.add_sub_cancel, List.getElem?_append_right (Nat.le_refl _), Nat.sub_self]; rfl
theorem RnOk.new {i : Nat} {rs : List (Nat × Nat)} (h : RnOk L i rs) (hi : 6 <= i) (hu : usd L i = false) (hn : ∀ p, rs[rs.length - 1]? = some p -> p.1 + p.2 ≠ i) : RnOk L (i + 1) (rs ++ [(i, 1)]) := by
 have hb := h.b2 hn
 refine ⟨?_, fun q hq => ?_, by rw [List.length_append, List.length_singleton]; omega, fun hn => ?_⟩
 ·rw [yfr L i hi, hu, <- h.ch, yes]; rfl
 ·rcases List.mem_append.1 hq with h1 | h1
  ·have := h.rg q h1; omega
  ·rw [List.mem_singleton.1 h1]
   show 6 <= i /\ 1 <= 1 /\ i + 1 <= i + 1
   omega
 ·exfalso
  refine hn (i, 1) ?_ rfl
  rw [List.length_append, List.length_singleton, Nat.add_sub_cancel, List.getElem?_append_right (Nat.le_refl _), Nat.sub_self]; rfl
end Go.Proofs.YtnjjnnfpnjjccaaGreatDoor.D
set_option linter.unusedSimpArgs false
set_option linter.unusedVariables false
namespace Go.Proofs.YtnjjnnfpnjjccaaGreatDoor.D
open Go Go.Det
variable {L : List (List Int)} {n0 : Nat} {H : AH} {v : Value} {vs : List Value}
set_option maxHeartbeats 8000000 in
theorem yoz (T S : Int) (v : Value) (L : List (List Int)) (H : AH) (Q : Value -> AH -> Prop) (hs : Secs H v L) (h8 : ∀ l ∈ L, SecOk l) (h6 : 6 < L.length) (hN : L.length <= 240)
  (hq : ∀ H' w rs, OL RUNS H.n H' w rs -> RnOk L L.length rs -> HExt H H' -> Q w H') : Got (xc Tryz.prog tab 60 [.agg #[.int .i64 T, .int .i64 S, v]] H) Q := by
 refine yac (res := [.tmp 2]) rfl ?_
 have vA : vcells (.agg #[.int .i64 T, .int .i64 S, v]) = [.int .i64 T, .int .i64 S, v] := rfl
 have b := Bx.new H [.int .i64 T, .int .i64 S, v]
 have x := yab H ⟨[.int .i64 T, .int .i64 S, v], 1, false, false⟩
 have hHn : (H.push ⟨[.int .i64 T, .int .i64 S, v], 1, false, false⟩).n = H.n + 1 := rfl
 generalize hTT : ((.seq (.seq (.ops (⟨some 4, _, _⟩ :: []) _) _) _) : XCode) = TT
 simp only [zZ, zY, ofArgs, qb_j, ev, if_true, if_false, reduceCtorEq, Nat.reduceEqDiff, Nat.reduceLT, vA]
 generalize H.push ⟨[.int .i64 T, .int .i64 S, v], 1, false, false⟩ = H1 at *
 have hs1 := Secs.ext x hs
 subst hTT
 generalize hTT : ((.seq (.ops (⟨some 51, _, _⟩ :: _) _) _) : XCode) = TT
 simp only [zZ, zY, q_b, ev, if_true, if_false, Nat.reduceEqDiff, Nat.reduceLT]
 refine yaz (fun k fr H' => ∃ w rs, OL RUNS H1.n H' w rs /\ RnOk L (6 + k) rs /\ HExt H1 H' /\ fr = [(1, .pointer (some ⟨H.n, 0, none⟩)), (3, w), (4, .int .i64 ((6 + k : Nat) : Int))]) (L.length - 6) ⟨.slice none 0 0, [], OL.nil _ _ _, ⟨rfl, fun p h => by simp at h, by simp, fun _ => by simp⟩, HExt.refl H1, rfl⟩ ?_ ?_
 ·rintro k hk fr H2 ⟨w, rs, o2, rn, x2, rfl⟩ J hJ
  generalize hj : 6 + k = j at *
  have b2 := b.ext x2
  have l2 := b2.ld 2 v rfl
  have ldn2 := b2.ldn 3 rfl
  have hs2' := Secs.ext x2 hs1
  have lv := hs2'.len
  have lw := SL.len_ok o2.1
  have hlt : (j : Int) < (L.length : Int) := by omega
  have hb1 := rn.b1
  have w3 : IntKind.i64.wrap ((j : Int) + 1) = ((6 + (k + 1) : Nat) : Int) := by rw [wrI _ (by omega) (by omega)]; omega
  have wl := wrI ((rs.length : Int) - 1) (by omega) (by omega)
  have hj6 : 6 + (k + 1) = j + 1 := by omega
  rw [hj6] at w3
  rw [hj6] at hJ
  generalize hII : ((.ops [⟨some 11, .mov (.tmp 4), none⟩, ⟨some 12, .bin .add (.tmp 11) (.const (.int .i64 1)), none⟩, ⟨some 4, .mov (.tmp 12), none⟩] [1, 3, 4]) : XCode) = II
  unfold ydA
  rw [hII]
  generalize hT2 : ((.cond (.tmp 21) _ _) : XCode) = T2
  simp only [zZ, zY, q_b, q_d, q_B, q_U, q_W, q_X, v_ld, qb_h, ev, qb_p, qb_q, xbin, ibin, if_true, if_false, Nat.reduceEqDiff, Nat.reduceLT, fldAk, l2, lv, hlt, decide_true, lw, wl, ldn2]
  refine ykw T S v L j H2 _ hs2' h8 (by omega) (by omega) ?_
  intro H3 x3
  have x13 := x2.trans x3
  have o3 := o2.ext x3
  cases hu : usd L j with
  | true =>
   subst hT2 hII
   simp only [zZ, zY, q_d, q_j, q_B, q_W, ev, xbin, ibin, if_true, if_false, Nat.reduceEqDiff, Nat.reduceLT, w3]
   exact hJ _ _ ⟨w, rs, o3, rn.used (by omega) hu, x13, rfl⟩
  | false =>
   subst hT2
   generalize hT2 : ((.cond (.tmp 25) _ _) : XCode) = T2
   have b3 := b2.ext x3
   have new : (∀ p, rs[rs.length - 1]? = some p -> p.1 + p.2 ≠ j) -> Run Tryz.prog tab T2 [(1, .pointer (some ⟨H.n, 0, none⟩)), (3, w), (4, .int .i64 (j : Int)), (5, .int .i64 ((rs.length : Int) - 1)), (25, .bool false)] H3 (blockQ 2 (blockQ 1 (thenQ (fun fr H => Run Tryz.prog tab II fr H J) J))) := fun hn => by
    subst hT2 hII
    have hall : ([.int .i64 (j : Int), .int .i64 ((1 : Nat) : Int)] : List Value).all one = true := rfl
    simp only [zZ, zY, q_j, q_C, q_W, qb_a, ev, xbin, ibin, if_true, if_false, Nat.reduceEqDiff, Nat.reduceLT, Nat.zero_add, Nat.reduceAdd, vb, vbs, qb_X, qb_Y, qb_Z, yaR, ygz, eq_self, List.length_cons, List.length_nil, List.set_cons_zero, List.set_cons_succ, List.map_cons, List.map_nil, Nat.zero_mul, rep_1]
    rw [ycY (n := 2) (by rfl) rfl rfl]
    simp only [q_q, zC]
    refine OL.push (S := RUNS) [(j, 1)] o3 x13.1 rfl 16 (by decide) (by simp; omega) ?_
    intro w' H4 o4 k4 _ _ _
    simp only [w3]
    exact hJ _ _ ⟨w', _, o4, rn.new (by omega) hu hn, Keep.trans (n0 := H1.n) x13 k4, rfl⟩
   simp only [q_a, q_C, ev, qb_r, if_true, if_false, Nat.reduceEqDiff]
   refine yaL _ _ _ _ _ rfl ?_
   by_cases h0 : rs = []
   ·subst h0
    have c0 : ¬ ((([] : List (Nat × Nat)).length : Int) - 1 >= 0) := by simp
    simp only [zZ, zY, q_x, q_S, q_T, q_W, qb_o, ev, xbin, ibin, if_true, if_false, Nat.reduceEqDiff, Nat.reduceLT, c0, decide_false]
    exact new fun p hp => by simp at hp
   ·have hpos : 0 < rs.length := List.length_pos_iff.2 h0
    obtain ⟨p, hp⟩ : ∃ p, rs[rs.length - 1]? = some p := ⟨_, List.getElem?_eq_getElem (by omega)⟩
    have hpr := rn.rg p (List.mem_of_getElem? hp)
    have c0 : (rs.length : Int) - 1 >= 0 := by omega
    have ek : (rs.length : Int) - 1 = ((rs.length - 1 : Nat) : Int) := by omega
    have a1 := SL.at o3.1 .i64 ((rs.length : Int) - 1) (rs.length - 1) ek (by omega)
    rw [ycc] at a1
    have a2 := fun m => yfn (m := m) o3.1 hpos 0 0 rfl (by omega)
    have a3 := fun m => yfn (m := m) o3.1 hpos 1 1 rfl (by omega)
    have a4 := SL.cell o3.1 (rs.length - 1) p hp 0 _ rfl
    have a5 := SL.cell o3.1 (rs.length - 1) p hp 1 _ rfl
    rw [ycc] at a4 a5
    have ws : IntKind.i64.wrap ((p.1 : Int) + (p.2 : Int)) = ((p.1 + p.2 : Nat) : Int) := by rw [wrI _ (by omega) (by omega)]; omega
    by_cases he : p.1 + p.2 = j
    ·have cb : (((p.1 + p.2 : Nat) : Int) == (j : Int)) = true := by rw [he]; simp
     have wp : IntKind.i64.wrap ((p.2 : Int) + 1) = ((p.2 + 1 : Nat) : Int) := wrS _ (by omega)
     subst hT2
     simp only [zZ, zY, q_w, q_B, q_S, q_T, q_W, q_Z, v_ld, qb_o, ev, xbin, ibin, if_true, if_false, Nat.reduceEqDiff, Nat.reduceLT, c0, decide_true, a1, ygA, a2, a3, a4, a5, ws, cb]
     refine yaL _ _ _ _ _ rfl ?_
     simp only [zZ, zY, q_j, q_S, q_T, q_W, q_Z, v_ld, v_st, ev, qb_v, xbin, ibin, if_true, if_false, Nat.reduceEqDiff, Nat.reduceLT, a1, ygA, a3, a5, wp]
     refine yoQ (S := RUNS) o3 (rs.length - 1) p (p.1, p.2 + 1) hp 1 (by decide) _ (yaR _ _) (ygz _ _) rfl ?_
     intro H4 o4 s4
     subst hII
     simp only [zZ, zY, q_W, ev, xbin, ibin, if_true, if_false, Nat.reduceEqDiff, Nat.reduceLT, w3]
     exact hJ _ _ ⟨w, _, o4, rn.more (by omega) hu hp he, Keep.trans (n0 := H1.n) x13 (s4.keep o3 x13.1), rfl⟩
    ·have cb : (((p.1 + p.2 : Nat) : Int) == (j : Int)) = false := by rw [beq_eq_false_iff_ne]; omega
     simp only [zZ, zY, q_w, q_S, q_T, q_W, q_Z, v_ld, qb_o, ev, xbin, ibin, if_true, if_false, Nat.reduceEqDiff, Nat.reduceLT, c0, decide_true, a1, ygA, a2, a3, a4, a5, ws, cb]
     exact new fun q hq => by rw [hp] at hq; cases hq; exact he
 ·rintro fr H2 ⟨w, rs, o2, rn, x2, rfl⟩
  have b2 := b.ext x2
  have l2 := b2.ld 2 v rfl
  have lv := (Secs.ext x2 hs1).len
  have e : 6 + (L.length - 6) = L.length := by omega
  rw [e] at rn ⊢
  subst hTT
  simp only [zZ, zY, ydA, q_b, q_e, q_f, q_h, q_k, q_m, q_C, q_U, q_W, q_X, v_ld, qb_h, ev, qb_p, qb_q, xbin, ibin, qb_A, qb_B, qb_C, resV, qb_D, if_true, if_false, Nat.reduceEqDiff, Nat.reduceLT, fldAk, l2, lv, Int.lt_irrefl, decide_false]
  exact hq H2 w rs (OL.le o2 (by omega)) rn (x.trans x2)
end Go.Proofs.YtnjjnnfpnjjccaaGreatDoor.D
set_option linter.unusedSimpArgs false
set_option linter.unusedVariables false
namespace Go.Proofs.YtnjjnnfpnjjccaaGreatDoor.D
open Go Go.Det
variable {L : List (List Int)} {n0 : Nat} {H : AH} {v : Value} {vs : List Value}
def tk : List (Nat × Nat) -> Nat -> List (Nat × Nat)
 | [], _ => []
 | p :: r, m => if m = 0 then [] else (p.1, min p.2 m) :: tk r (m - min p.2 m)
theorem yet (p : Nat × Nat) (r : List (Nat × Nat)) : chP (p :: r) = rngP p.1 p.2 ++ chP r := by simp [chP]
theorem ypp (a b : List (Nat × Nat)) : chP (a ++ b) = chP a ++ chP b := by simp [chP]
theorem ynk (f n m : Nat) (h : n <= m) : (rngP f n).Sublist (rngP f m) := by
 unfold rngP
 have : List.range n = (List.range m).take n := by rw [List.take_range, Nat.min_eq_left h]
 rw [this]
 exact (List.take_sublist _ _).map _
theorem ykx : ∀ (rs : List (Nat × Nat)) (m : Nat), (chP (tk rs m)).Sublist (chP rs)
 | [], m => List.Sublist.refl _
 | p :: r, m => by
  unfold tk
  split
  ·exact List.nil_sublist _
  ·rw [yet, yet]
   exact (ynk _ _ _ (Nat.min_le_left _ _)).append (ykx r _)
theorem tk_cl : ∀ (rs : List (Nat × Nat)) (m : Nat), m <= (chP rs).length -> (chP (tk rs m)).length = m
 | [], m, h => by simp [chP] at h; simp [tk, chP, h]
 | p :: r, m, h => by
  unfold tk
  split
  ·rename_i h0; rw [h0]; rfl
  ·rw [yet, List.length_append, yc6] at h
   rw [yet, List.length_append, yc6]
   show min p.2 m + _ = m
   rw [tk_cl r _ (by omega)]; omega
theorem yky : ∀ (rs : List (Nat × Nat)) (m : Nat) (q : Nat × Nat), q ∈ tk rs m -> ∃ p ∈ rs, q.1 = p.1 /\ q.2 <= p.2 /\ (1 <= p.2 -> 1 <= q.2)
 | [], m, q, h => by simp [tk] at h
 | p :: r, m, q, h => by
  unfold tk at h
  split at h
  ·simp at h
  ·rcases List.mem_cons.1 h with rfl | h
   ·exact ⟨p, by simp, rfl, Nat.min_le_left _ _, fun h1 => by show 1 <= min p.2 m; omega⟩
   ·obtain ⟨p', h1, h2⟩ := yky r _ q h
    exact ⟨p', by simp [h1], h2⟩
theorem yn7 : ∀ (rs : List (Nat × Nat)) (m : Nat), (∀ p ∈ rs, 1 <= p.2) -> (tk rs m).length <= m
 | [], m, _ => Nat.zero_le _
 | p :: r, m, h => by
  unfold tk
  split
  ·exact Nat.zero_le _
  ·have h1 := h p (by simp)
   have := yn7 r (m - min p.2 m) fun q hq => h q (by simp [hq])
   rw [List.length_cons]; omega
theorem yn8 : ∀ (rs : List (Nat × Nat)) (m k : Nat), (∀ p ∈ rs, 1 <= p.2) -> m <= (chP rs).length -> k < (tk rs m).length -> ∃ p, rs[k]? = some p /\ (tk rs m)[k]? = some (p.1, min p.2 (m - (chP ((tk rs m).take k)).length)) /\ (chP ((tk rs m).take k)).length < m
 | [], m, k, _, _, h => by simp [tk] at h
 | p :: r, m, k, hp, hm, h => by
  unfold tk at h ⊢
  by_cases h0 : m = 0
  ·rw [if_pos h0] at h; simp at h
  ·rw [if_neg h0] at h ⊢
   cases k with
   | zero => exact ⟨p, rfl, by simp [chP], by simp [chP]; omega⟩
   | succ k =>
    have hp1 := hp p (by simp)
    rw [yet, List.length_append, yc6] at hm
    rw [List.length_cons] at h
    obtain ⟨q, h1, h2, h3⟩ := yn8 r (m - min p.2 m) k (fun q hq => hp q (by simp [hq])) (by omega) (by omega)
    have hd : (chP (((p.1, min p.2 m) :: tk r (m - min p.2 m)).take (k + 1))).length = min p.2 m + (chP ((tk r (m - min p.2 m)).take k)).length := by
     rw [List.take_succ_cons, yet, List.length_append, yc6]
    refine ⟨q, h1, ?_, by rw [hd]; omega⟩
    rw [hd, List.getElem?_cons_succ, h2, Nat.sub_sub]
structure FilI (L1 L' : List (List Int)) (i : Nat) (cs : List Int) (nb data : List Int) : Prop where
 len : L'.length = L1.length
 h8 : ∀ l ∈ L', SecOk l
 sec : ∀ q : Nat, q ≠ 1 -> q ≠ 2 + i / 8 -> (q : Int) ∉ cs -> L'[q]? = L1[q]?
 put : ∀ j c, cs[j]? = some c -> L'[c.toNat]? = some (blkP data j)
 us : ∀ k, k < 1024 -> usd L' k = if (cs.contains (k : Int)) then true else usd L1 k
 nod : ∀ j, j < 32 -> D.nod L' j = if j = i then nb else D.nod L1 j
theorem FilI.start {L1 : List (List Int)} (h8 : ∀ l ∈ L1, SecOk l) (i : Nat) (data : List Int) : FilI L1 L1 i [] (D.nod L1 i) data := by
 refine ⟨rfl, h8, fun _ _ _ _ => rfl, fun j c h => by simp at h, fun k _ => by simp, fun j _ => ?_⟩
 by_cases h : j = i
 ·subst h; rw [if_pos rfl]
 ·rw [if_neg h]
theorem FilI.byte {L1 L' : List (List Int)} {i : Nat} {cs nb data : List Int} (h : FilI L1 L' i cs nb data) (hi : i < 32) (h6 : 6 < L1.length) (hc : ∀ c ∈ cs, 6 <= c) (j : Nat) (hj : j < 16) (b : Int) (hb : 0 <= b /\ b < 256) : FilI L1 (ndS L' i j [b]) i cs (spI nb j [b]) data := by
 have hk : 2 + i / 8 < L'.length := by rw [h.len]; omega
 refine ⟨by rw [ya8, h.len], yjx h.h8 i j hk _ (by simp; omega) (fun x hx => by rw [List.mem_singleton.1 hx]; exact hb), fun q h1 h2 h3 => by rw [yeG _ _ _ q h2, h.sec q h1 h2 h3], fun m c hm => ?_, fun k hk => by rw [ykV, h.us k hk], fun m hm => ?_⟩
 ·have := hc c (List.mem_of_getElem? hm)
  rw [yeG _ _ _ _ (by omega)]
  exact h.put m c hm
 ·rw [ygM h.h8 i j hk _ (by simp; omega) m]
  have hni : D.nod L' i = nb := by rw [h.nod i hi, if_pos rfl]
  by_cases e : m = i
  ·rw [if_pos e, if_pos e, hni]
  ·rw [if_neg e, if_neg e, h.nod m hm, if_neg e]
theorem FilI.sector {L1 L' : List (List Int)} {i : Nat} {cs nb data : List Int} (h : FilI L1 L' i cs nb data) (hi : i < 32) (h6 : 6 < L1.length) (hc : ∀ c ∈ cs, 6 <= c) (hd : B8 data) (c : Nat) (hc6 : 6 <= c) (hcL : c < L1.length) (hc1 : c < 1024) (hnc : (c : Int) ∉ cs) :
  FilI L1 (mrkL (L'.set c (blkP data cs.length)) c true) i (cs ++ [(c : Int)]) nb data := by
 have s8 : ∀ l ∈ L'.set c (blkP data cs.length), SecOk l := fun l hl => by
  rcases List.mem_or_eq_of_mem_set hl with h1 | rfl
  ·exact h.h8 l h1
  ·exact ykp data hd _
 have sl : (L'.set c (blkP data cs.length)).length = L1.length := by rw [List.length_set, h.len]
 obtain ⟨a1, a2⟩ := yka (L'.set c (blkP data cs.length)) c true s8 (by rw [sl]; omega) hc1
 have us0 : ∀ k, usd (L'.set c (blkP data cs.length)) k = usd L' k := fun k => by
  have e : (L'.set c (blkP data cs.length)).getD 1 [] = L'.getD 1 [] := by rw [List.getD_eq_getElem?_getD, List.getD_eq_getElem?_getD, List.getElem?_set, if_neg (by omega)]
  unfold usd; rw [e]
 refine ⟨by rw [yfV, sl], a1, fun q h1 h2 h3 => ?_, fun j d hj => ?_, fun k hk => ?_, fun j hj => ?_⟩
 ·rw [ydS _ _ _ _ h1, List.getElem?_set, if_neg (fun e => h3 (by rw [<- e]; simp)), h.sec q h1 h2 (fun hm => h3 (by simp [hm]))]
 ·rcases Nat.lt_or_ge j cs.length with hl | hl
  ·rw [List.getElem?_append_left hl] at hj
   have hdm := List.mem_of_getElem? hj
   have hd6 := hc d hdm
   rw [ydS _ _ _ _ (by omega), List.getElem?_set, if_neg (fun e => hnc (by rw [e, Int.toNat_of_nonneg (by omega)]; exact hdm))]
   exact h.put j d hj
  ·have : j = cs.length := by have := (List.getElem?_eq_some_iff.1 hj).1; simp at this; omega
   subst this
   rw [List.getElem?_append_right (Nat.le_refl _), Nat.sub_self] at hj
   cases hj
   rw [Int.toNat_natCast, ydS _ _ _ _ (by omega), List.getElem?_set, if_pos rfl, if_pos (by rw [h.len]; exact hcL)]
 ·rw [a2 k hk, us0, h.us k hk]
  have e : (cs ++ [(c : Int)]).contains (k : Int) = (cs.contains (k : Int) || decide (k = c)) := by
   rw [Bool.eq_iff_iff, Bool.or_eq_true, List.contains_iff_mem, List.contains_iff_mem, List.mem_append, List.mem_singleton, decide_eq_true_eq]
   exact or_congr Iff.rfl ⟨fun h => by omega, fun h => by omega⟩
  rw [e]
  by_cases h1 : k = c
  ·rw [if_pos h1, decide_eq_true h1, Bool.or_true, if_pos rfl]
  ·rw [if_neg h1, decide_eq_false h1, Bool.or_false]
 ·rw [ynv, <- h.nod j hj]
  refine yhZ ?_
  rw [List.getElem?_set, if_neg (by omega)]
theorem FilI.nodO {L1 L' : List (List Int)} {i : Nat} {cs nb data : List Int} (h : FilI L1 L' i cs nb data) {j : Nat} (hj : j < 32) (hne : j ≠ i) : D.nod L' j = D.nod L1 j := by rw [h.nod j hj, if_neg hne]
theorem FilI.nodI {L1 L' : List (List Int)} {i : Nat} {cs nb data : List Int} (h : FilI L1 L' i cs nb data) (hi : i < 32) : D.nod L' i = nb := by rw [h.nod i hi, if_pos rfl]
theorem yiy (l : List Int) (j : Nat) (b : Int) (h : j < l.length) : spI l j [b] = l.set j b := by
 rw [List.set_eq_take_append_cons_drop, if_pos h]
 unfold spI
 simp
theorem ymg (kd par n : Nat) (ps : List (Nat × Nat)) (h4 : ps.length < 4) (f m : Nat) : spI (spI (nodB kd par n ps) (4 + 2 * ps.length) [(f : Int)]) (5 + 2 * ps.length) [(m : Int)] = nodB kd par n (ps ++ [(f, m)]) := by
 have l16 := yfU kd par n ps (by omega)
 rw [yiy (nodB kd par n ps) _ _ (by omega), yiy _ _ _ (by rw [List.length_set]; omega)]
 unfold nodB
 obtain ⟨z, hz⟩ : ∃ z, 12 - 2 * ps.length = z + 2 := ⟨12 - 2 * ps.length - 2, by omega⟩
 have hz2 : 12 - 2 * (ps ++ [(f, m)]).length = z := by simp; omega
 have e : pcs (ps ++ [(f, m)]) = pcs ps ++ [(f : Int), (m : Int)] := by simp [pcs]
 have r : List.replicate (z + 2) (0 : Int) = 0 :: 0 :: List.replicate z 0 := rfl
 have d1 : 4 + 2 * ps.length - [(kd : Int), (par : Int), ((n / 256 : Nat) : Int), ((n % 256 : Nat) : Int)].length = 2 * ps.length := by simp
 have d2 : 5 + 2 * ps.length - [(kd : Int), (par : Int), ((n / 256 : Nat) : Int), ((n % 256 : Nat) : Int)].length = 2 * ps.length + 1 := by simp; omega
 rw [hz, hz2, e, r, List.set_append_right _ _ (by show 4 <= _; omega), d1, List.set_append_right _ _ (by show 4 <= _; omega), d2]
 congr 1
 rw [List.set_append_right _ _ (by rw [ydO]; omega), ydO, Nat.sub_self, List.set_cons_zero, List.set_append_right _ _ (by rw [ydO]; omega), ydO, Nat.add_sub_cancel_left, List.set_cons_succ, List.set_cons_zero]
 simp
theorem ymf (kd par n : Nat) (ps : List (Nat × Nat)) (h4 : ps.length <= 4) : spI (spI (nodB kd par 0 ps) 2 [((n / 256 : Nat) : Int)]) 3 [((n % 256 : Nat) : Int)] = nodB kd par n ps := by
 have l16 := yfU kd par 0 ps h4
 rw [yiy (nodB kd par 0 ps) _ _ (by omega), yiy _ _ _ (by rw [List.length_set]; omega)]
 rfl
theorem yjw (kd par n : Nat) (ps : List (Nat × Nat)) (h4 : ps.length <= 4) : spI (nodB kd par n ps) 2 (List.replicate 14 0) = nodB kd par 0 [] := by
 have l16 := yfU kd par n ps h4
 unfold spI
 have : (nodB kd par n ps).drop (2 + (List.replicate 14 (0 : Int)).length) = [] := List.drop_eq_nil_of_le (by rw [List.length_replicate]; omega)
 rw [this]
 rfl
end Go.Proofs.YtnjjnnfpnjjccaaGreatDoor.D
set_option linter.unusedSimpArgs false
set_option linter.unusedVariables false
namespace Go.Proofs.YtnjjnnfpnjjccaaGreatDoor.D
open Go Go.Det
variable {L L' : List (List Int)} {G : Nat -> Option Nd}
def updN (G : Nat -> Option Nd) (i : Nat) (o : Option Nd) (j : Nat) : Option Nd := if j = i then o else G j
theorem ycC (G : Nat -> Option Nd) (i : Nat) (o : Option Nd) : updN G i o i = o := if_pos rfl
theorem yb9 (G : Nat -> Option Nd) {i j : Nat} (o : Option Nd) (h : j ≠ i) : updN G i o j = G j := if_neg h
def chO : Option Nd -> List Int
 | some x => chP x.ps
 | none => []
theorem ycK {x : Nd} {o : Option Nd} (h : o = some x) : chO o = chP x.ps := by rw [h]; rfl
theorem yiV (R : FRep L G) {i : Nat} (hi : i < 32) (o : Option Nd) (hl : L'.length = L.length) (h8 : ∀ l ∈ L', SecOk l)
  (hsec : ∀ q : Nat, q ≠ 1 -> q ≠ 2 + i / 8 -> (q : Int) ∉ chO o -> L'[q]? = L[q]?)
  (hus : ∀ k, k < 1024 -> usd L' k = if (chO o).contains (k : Int) then true else if (chO (G i)).contains (k : Int) then false else usd L k)
  (hno : ∀ j, j < 32 -> j ≠ i -> D.nod L' j = D.nod L j) (hf : ∀ c ∈ chO o, 6 <= c /\ ∀ j y, j < 32 -> j ≠ i -> G j = some y -> c ∉ chP y.ps)
  (hn : o = none -> D.nod L' i = z16) (hs : ∀ x, o = some x -> NdOk L' x /\ D.nod L' i = x.b) (hr : i = 0 -> ∃ x, o = some x /\ x.kd = 2 /\ x.par = 0) : FRep L' (updN G i o) := by
 have h6 := R.h6
 refine ⟨by rw [hl]; exact h6, by rw [hl]; exact R.h240, h8, ?_, fun j x hj hx => ?_, fun j hj hx => ?_, fun a b x y k ha hb hab hx hy hkx hky => ?_, fun k hk => ?_, ?_⟩
 ·have : L'.getD 0 [] = L.getD 0 [] := by
   rw [List.getD_eq_getElem?_getD, List.getD_eq_getElem?_getD, hsec 0 (by omega) (by omega) (fun h => by have := (hf _ h).1; omega)]
  rw [this]; exact R.mg
 ·by_cases e : j = i
  ·subst e
   rw [ycC] at hx
   exact hs x hx
  ·rw [yb9 _ _ e] at hx
   obtain ⟨a1, a2⟩ := R.nod j x hj hx
   refine ⟨⟨a1.kd, a1.pr, a1.n4, fun p hp => by rw [hl]; exact a1.rg p hp, a1.dl, a1.d8, a1.cl, a1.nd, fun m c hm => ?_⟩, by rw [hno j hj e, a2]⟩
   have hcm := List.mem_of_getElem? hm
   have hr6 := R.rng hj hx c hcm
   rw [hsec c.toNat (by omega) (by omega) (fun h => (hf _ h).2 j x hj e hx (by rw [Int.toNat_of_nonneg (by omega)]; exact hcm))]
   exact a1.sec m c hm
 ·by_cases e : j = i
  ·subst e
   rw [ycC] at hx
   exact hn hx
  ·rw [yb9 _ _ e] at hx
   rw [hno j hj e]; exact R.zer j hj hx
 ·by_cases ea : a = i
  ·subst ea
   rw [ycC] at hx
   rw [yb9 _ _ (fun e => hab e.symm)] at hy
   exact (hf k (by rw [ycK hx]; exact hkx)).2 b y hb (fun e => hab e.symm) hy hky
  ·rw [yb9 _ _ ea] at hx
   by_cases eb : b = i
   ·subst eb
    rw [ycC] at hy
    exact (hf k (by rw [ycK hy]; exact hky)).2 a x ha ea hx hkx
   ·rw [yb9 _ _ eb] at hy
    exact R.dis a b x y k ha hb hab hx hy hkx hky
 ·rw [hus k hk, R.us k hk, Bool.eq_iff_iff, ownB_true]
  constructor
  ·intro h
   by_cases h1 : (k : Int) ∈ chO o
   ·cases ho : o with
    | none => rw [ho] at h1; simp [chO] at h1
    | some x => exact .inr ⟨i, x, hi, by rw [ycC], by rw [<- ycK ho]; exact h1⟩
   ·have e1 : (chO o).contains (k : Int) = false := by rw [Bool.eq_false_iff]; exact fun h => h1 (List.contains_iff_mem.1 h)
    rw [e1] at h
    simp only [zA, if_false] at h
    by_cases h2 : (k : Int) ∈ chO (G i)
    ·rw [List.contains_iff_mem.2 h2] at h; simp at h
    ·have e2 : (chO (G i)).contains (k : Int) = false := by rw [Bool.eq_false_iff]; exact fun h => h2 (List.contains_iff_mem.1 h)
     rw [e2] at h
     simp only [zA, if_false] at h
     rcases ownB_true.1 h with h | ⟨j, y, hj, hy, hk⟩
     ·exact .inl h
     ·have hji : j ≠ i := fun e => h2 (by rw [<- e, ycK hy]; exact hk)
      exact .inr ⟨j, y, hj, by rw [yb9 _ _ hji]; exact hy, hk⟩
  ·intro h
   have key : (k : Int) ∉ chO (G i) -> ownB G 32 k = true -> (if (chO o).contains (k : Int) then true else if (chO (G i)).contains (k : Int) then false else ownB G 32 k) = true := fun h2 h3 => by
    have e2 : (chO (G i)).contains (k : Int) = false := by rw [Bool.eq_false_iff]; exact fun h => h2 (List.contains_iff_mem.1 h)
    rw [e2, h3]; simp
   rcases h with h | ⟨j, y, hj, hy, hk'⟩
   ·refine key (fun hm => ?_) (ownB_true.2 (.inl h))
    cases hG : G i with
    | none => rw [hG] at hm; simp [chO] at hm
    | some x =>
     rw [ycK hG] at hm
     have := R.rng hi hG _ hm
     omega
   ·by_cases e : j = i
    ·subst e
     rw [ycC] at hy
     rw [ycK hy, List.contains_iff_mem.2 hk']; simp
    ·rw [yb9 _ _ e] at hy
     refine key (fun hm => ?_) (ownB_true.2 (.inr ⟨j, y, hj, hy, hk'⟩))
     cases hG : G i with
     | none => rw [hG] at hm; simp [chO] at hm
     | some x =>
      rw [ycK hG] at hm
      exact R.dis j i y x _ hj hi e hy hG hk' hm
 ·by_cases e : 0 = i
  ·obtain ⟨x, h1, h2, h3⟩ := hr e.symm
   exact ⟨x, by rw [<- e, ycC]; exact h1, h2, h3⟩
  ·rw [yb9 _ _ e]; exact R.root
theorem yms (R : FRep L G) {i : Nat} {x : Nd} (hi : i < 32) (hx : G i = some x) {L1 : List (List Int)} (f : Fre L L1 i (chP x.ps)) : FRep L1 (updN G i (some ⟨x.kd, x.par, [], []⟩)) := by
 obtain ⟨a1, a2⟩ := R.nod i x hi hx
 refine yiV R hi _ f.len f.h8 (fun q h1 h2 _ => f.sec q h1 h2) (fun k hk => ?_) (fun j hj hne => by rw [f.nod j, if_neg hne]) (fun c hc => by simp [chO, chP] at hc) (fun h => by cases h) (fun y hy => ?_) (fun h0 => ?_)
 ·rw [f.us k hk, ycK hx]
  have : (chO (some (⟨x.kd, x.par, [], []⟩ : Nd))).contains (k : Int) = false := rfl
  rw [this]; simp
 ·cases hy
  refine ⟨⟨a1.kd, a1.pr, Nat.zero_le _, fun p hp => by simp at hp, by simp, fun b hb => by simp at hb, by simp [chP, need], List.nodup_nil, fun j c h => by simp [chP] at h⟩, ?_⟩
  rw [f.nod i, if_pos rfl, a2]
  exact yjw x.kd x.par x.dt.length x.ps a1.n4
 ·subst h0
  obtain ⟨y, h1, h2, h3⟩ := R.root
  rw [hx] at h1; cases h1
  exact ⟨_, rfl, h2, h3⟩
theorem ynF (R : FRep L G) {i : Nat} (hi : i < 32) (hx : G i = none) (kd par : Nat) (hk : kd = 1 \/ kd = 2) (hp : par < 32) : FRep (ndS (ndS L i 0 [(kd : Int)]) i 1 [(par : Int)]) (updN G i (some ⟨kd, par, [], []⟩)) := by
 have hb : 2 + i / 8 < L.length := R.bnd hi
 have k8 : ∀ l ∈ ndS L i 0 [(kd : Int)], SecOk l := yjx R.h8 i 0 hb _ (by simp) (fun b hb => by rw [List.mem_singleton.1 hb]; omega)
 have hb2 : 2 + i / 8 < (ndS L i 0 [(kd : Int)]).length := by rw [ya8]; exact hb
 have hnd : ∀ j, D.nod (ndS (ndS L i 0 [(kd : Int)]) i 1 [(par : Int)]) j = if j = i then spI (spI (D.nod L i) 0 [(kd : Int)]) 1 [(par : Int)] else D.nod L j := fun j => by
  rw [ygM k8 i 1 hb2 _ (by simp) j, ygM R.h8 i 0 hb _ (by simp) i, ygM R.h8 i 0 hb _ (by simp) j, if_pos rfl]
  by_cases e : j = i
  ·rw [if_pos e, if_pos e]
  ·rw [if_neg e, if_neg e, if_neg e]
 refine yiV R hi _ (by rw [ya8, ya8]) (yjx k8 i 1 hb2 _ (by simp) (fun b hb => by rw [List.mem_singleton.1 hb]; omega)) (fun q h1 h2 _ => by rw [yeG _ _ _ q h2, yeG _ _ _ q h2]) (fun k hk => ?_) (fun j hj hne => by rw [hnd j, if_neg hne]) (fun c hc => by simp [chO, chP] at hc) (fun h => by cases h) (fun y hy => ?_) (fun h0 => ?_)
 ·rw [ykV, ykV, hx]; rfl
 ·cases hy
  refine ⟨⟨hk, hp, Nat.zero_le _, fun p hp => by simp at hp, by simp, fun b hb => by simp at hb, by simp [chP, need], List.nodup_nil, fun j c h => by simp [chP] at h⟩, ?_⟩
  rw [hnd i, if_pos rfl, R.zer i hi hx]
  simp [spI, z16, Nd.b, nodB, pcs, List.replicate]
 ·subst h0
  obtain ⟨y, h1, _⟩ := R.root
  rw [hx] at h1; cases h1
theorem yf2 {a b : List (Nat × Nat)} (h : a.Perm b) : (chP a).Perm (chP b) := by
 unfold chP
 exact h.flatMap_right _
theorem yeI (L : List (List Int)) (n : Nat) : (freeS L n).Nodup := by
 unfold freeS
 have h : (((List.range n).drop 6).filter fun i => !usd L i).Nodup := (List.nodup_range.sublist (List.drop_sublist 6 _)).filter _
 rw [List.nodup_iff_pairwise_ne] at h ⊢
 rw [List.pairwise_map]
 exact h.imp fun h e => h (by omega)
theorem ygY (L : List (List Int)) (n : Nat) (c : Int) (h : c ∈ freeS L n) : 6 <= c /\ c < (n : Int) /\ usd L c.toNat = false := by
 unfold freeS at h
 obtain ⟨i, hi, rfl⟩ := List.mem_map.1 h
 obtain ⟨h1, h2⟩ := List.mem_filter.1 hi
 obtain ⟨q, hq⟩ := List.getElem?_of_mem h1
 rw [List.getElem?_drop] at hq
 have hlt := (List.getElem?_eq_some_iff.1 hq).1
 rw [List.length_range] at hlt
 rw [List.getElem?_range hlt] at hq
 have : 6 + q = i := Option.some.inj hq
 refine ⟨by omega, by omega, ?_⟩
 rw [Int.toNat_natCast]
 simpa using h2
theorem ymt (R : FRep L G) {i : Nat} {x : Nd} (hi : i < 32) (hx : G i = some x) {L1 L' : List (List Int)} (f : Fre L L1 i (chP x.ps)) {rs0 rs : List (Nat × Nat)} (rn : RnOk L1 L1.length rs0) (hp : rs.Perm rs0) (data : List Int) (hd : B8 data) (hdl : data.length <= 65535) (hm : need data.length <= (chP rs).length)
  (h4 : (tk rs (need data.length)).length <= 4) (fi : FilI L1 L' i (chP (tk rs (need data.length))) (nodB x.kd x.par data.length (tk rs (need data.length))) data) :
  FRep L' (updN G i (some ⟨x.kd, x.par, tk rs (need data.length), data⟩)) := by
 obtain ⟨a1, a2⟩ := R.nod i x hi hx
 have hl : L'.length = L.length := by rw [fi.len, f.len]
 have hmem : ∀ c ∈ chP (tk rs (need data.length)), 6 <= c /\ c < (L.length : Int) /\ usd L1 c.toNat = false := fun c hc => by
  have h1 := (ykx rs (need data.length)).subset hc
  have h2 := (yf2 hp).mem_iff.1 h1
  rw [rn.ch] at h2
  have := ygY L1 _ c h2
  rw [f.len] at this
  exact this
 have hnd : (chP (tk rs (need data.length))).Nodup := by
  have h1 : (chP rs0).Nodup := by rw [rn.ch]; exact yeI L1 _
  exact ((yf2 hp).nodup_iff.2 h1).sublist (ykx rs _)
 have h240 := R.h240
 generalize hps : tk rs (need data.length) = ps at *
 have hcl : (chP ps).length = need data.length := by rw [<- hps]; exact tk_cl rs _ hm
 refine yiV R hi _ hl fi.h8 (fun q h1 h2 h3 => by rw [fi.sec q h1 h2 h3, f.sec q h1 h2]) (fun k hk => ?_) (fun j hj hne => by rw [fi.nodO hj hne, f.nod j, if_neg hne]) (fun c hc => ?_) (fun h => by cases h) (fun y hy => ?_) (fun h0 => ?_)
 ·rw [fi.us k hk, f.us k hk, ycK hx]
  rfl
 ·have hc' : c ∈ chP ps := hc
  obtain ⟨h1, h2, h3⟩ := hmem c hc'
  refine ⟨h1, fun j y hj hne hy hm => ?_⟩
  have hk : c.toNat < 1024 := by omega
  have e : ((c.toNat : Nat) : Int) = c := Int.toNat_of_nonneg (by omega)
  have hnx : c ∉ chP x.ps := R.dis j i y x c hj hi hne hy hx hm
  have e2 : (chP x.ps).contains c = false := by rw [Bool.eq_false_iff]; exact fun h => hnx (List.contains_iff_mem.1 h)
  have u1 := f.us c.toNat hk
  rw [h3, e, e2] at u1
  simp only [zA, if_false] at u1
  rw [R.us _ hk] at u1
  have u2 : ownB G 32 c.toNat = true := ownB_true.2 (.inr ⟨j, y, hj, hy, by rw [e]; exact hm⟩)
  rw [u2] at u1; cases u1
 ·cases hy
  refine ⟨⟨a1.kd, a1.pr, h4, fun p hp' => ?_, hdl, hd, hcl, hnd, fun j c hj => fi.put j c hj⟩, fi.nodI hi⟩
  have hp2 : p ∈ ps := hp'
  rw [<- hps] at hp2
  obtain ⟨p', g1, g2, g3, g4⟩ := yky rs _ p hp2
  have := rn.rg p' (hp.mem_iff.1 g1)
  have h5 := g4 this.2.1
  rw [fi.len]
  omega
 ·subst h0
  obtain ⟨y, h1, h2, h3⟩ := R.root
  rw [hx] at h1; cases h1
  exact ⟨_, rfl, h2, h3⟩
end Go.Proofs.YtnjjnnfpnjjccaaGreatDoor.D
set_option linter.unusedSimpArgs false
set_option linter.unusedVariables false
namespace Go.Proofs.YtnjjnnfpnjjccaaGreatDoor.D
open Go Go.Det
structure FrD (v : Value) (vs vs' : List Value) (H H' : AH) : Prop where
 n : H.n <= H'.n
 get : ∀ b, b < H.n -> ¬ inB v b -> (∀ (i : Nat) (x : Value), vs[i]? = some x -> ¬ inB x b) -> H'.get b = H.get b
 new : ∀ (i : Nat) (x : Value), vs'[i]? = some x -> (∃ j : Nat, vs[j]? = some x) \/ ∀ b, inB x b -> H.n <= b
 low : ∀ q : Nat, q < 6 -> vs'[q]? = vs[q]?
theorem FrD.refl (v : Value) (vs : List Value) (H : AH) : FrD v vs vs H H := ⟨Nat.le_refl _, fun _ _ _ _ => rfl, fun i x h => .inl ⟨i, h⟩, fun _ _ => rfl⟩
theorem FrD.trans {v : Value} {vs vs1 vs2 : List Value} {A B C : AH} (h : FrD v vs vs1 A B) (k : FrD v vs1 vs2 B C) : FrD v vs vs2 A C := by
 refine ⟨Nat.le_trans h.n k.n, fun b hb hv hx => ?_, fun i x hi => ?_, fun q hq => (k.low q hq).trans (h.low q hq)⟩
 ·refine (k.get b (Nat.lt_of_lt_of_le hb h.n) hv fun i x hi hin => ?_).trans (h.get b hb hv hx)
  rcases h.new i x hi with ⟨j, hj⟩ | h2
  ·exact hx j x hj hin
  ·have := h2 b hin; omega
 ·rcases k.new i x hi with ⟨j, hj⟩ | h2
  ·rcases h.new j x hj with ⟨m, hm⟩ | h3
   ·exact .inl ⟨m, hm⟩
   ·exact .inr h3
  ·exact .inr fun b hb => Nat.le_trans h.n (h2 b hb)
theorem FrD.frm {v : Value} {vs : List Value} {A B : AH} (h : Frm vs A B) : FrD v vs vs A B := ⟨h.n, fun b hb _ hx => h.get b hb hx, fun i x hi => .inl ⟨i, hi⟩, fun _ _ => rfl⟩
theorem FrD.ext {v : Value} {vs : List Value} {A B : AH} (h : HExt A B) : FrD v vs vs A B := FrD.frm (Frm.ext h)
def Prot (v : Value) (vs : List Value) (b : Nat) : Prop := ¬ inB v b /\ ∀ (i : Nat) (x : Value), vs[i]? = some x -> ¬ inB x b
theorem FrD.prot {v : Value} {vs vs' : List Value} {A B : AH} (h : FrD v vs vs' A B) {b : Nat} (hb : b < A.n) (p : Prot v vs b) : Prot v vs' b := by
 refine ⟨p.1, fun i x hi hin => ?_⟩
 rcases h.new i x hi with ⟨j, hj⟩ | h2
 ·exact p.2 j x hj hin
 ·have := h2 b hin; omega
theorem FrD.keep {v : Value} {vs vs' : List Value} {A B : AH} (h : FrD v vs vs' A B) {b : Nat} (hb : b < A.n) (p : Prot v vs b) : B.get b = A.get b := h.get b hb p.1 p.2
theorem FrD.sl {v : Value} {vs vs' : List Value} {A B : AH} (h : FrD v vs vs' A B) {sz n : Nat} {s : Value} {cs : List Value} (hs : Sl A sz s n cs) (p : ∀ b, inB s b -> Prot v vs b) : Sl B sz s n cs := Sl.same hs h.n fun b hb => h.keep (hs.lt hb) (p b hb)
theorem FrD.bx {v : Value} {vs vs' : List Value} {A B : AH} (h : FrD v vs vs' A B) {E : Nat} {cs : List Value} (b : Bx A E cs) (p : Prot v vs E) : Bx B E cs := b.same h.n (h.keep b.2 p)
theorem Dk.prot {n0 N : Nat} {H : AH} {v : Value} {vs : List Value} {L : List (List Int)} (d : Dk n0 N H v vs L) {b : Nat} (hb : H.n <= b) : Prot v vs b := ⟨fun h => by have := d.own.1.lt h; omega, fun i x hx h => by have := d.lt i x hx h; omega⟩
theorem Dk.protL {n0 : Nat} {H : AH} {v : Value} {vs : List Value} {L : List (List Int)} (d : Dk n0 L.length H v vs L) {b : Nat} (hb : b < n0) : Prot v vs b := ⟨fun h => by have := Own.geB d.own h; omega, fun i x hx h => by have := d.geAll i x hx b h; omega⟩
theorem ymX (q : List Int) (left : Value) (H : AH) (n0 : Nat) (hn : n0 <= H.n) (hd : Byts H left q) :
  ∃ H', xcopy (H.push ⟨rep 128 [.int .u8 0], 1, false, false⟩) 1 (.slice (some ⟨H.n, 0, none⟩) 128 128) left = some (.int .i64 (Int.ofNat (Nat.min q.length 128)), H') /\ OwnB n0 H' (.slice (some ⟨H.n, 0, none⟩) 128 128) (spI zs128 0 (q.take 128)) /\ HExt H H' := by
 have x1 := yab H ⟨rep 128 [.int .u8 0], 1, false, false⟩
 have ob : OwnB H.n (H.push ⟨rep 128 [.int .u8 0], 1, false, false⟩) (.slice (some ⟨H.n, 0, none⟩) 128 128) zs128 := by
  have hp := Own.pushed H (rep 128 [.int .u8 0]) 1 128 false (by rw [yaB]; rfl)
  unfold OwnB
  rw [ydL] at hp
  simpa [ydL, zs128] using hp
 have hd1 : Byts (H.push ⟨rep 128 [.int .u8 0], 1, false, false⟩) left q := Sl.ext x1 hd
 obtain ⟨hm1, _⟩ := ykF hd1 (yjS _)
 have hgb : (H.push ⟨rep 128 [.int .u8 0], 1, false, false⟩).get H.n = some ⟨rep 128 [.int .u8 0], 1, false, false⟩ := by rw [AH.get_push, if_pos rfl]
 have hcells : (rep 128 [Value.int .u8 0]).length = 128 := by rw [yaB]; rfl
 have hsrc : src (H.push ⟨rep 128 [.int .u8 0], 1, false, false⟩) 1 (Nat.min q.length 128) (srcV left (Nat.min q.length 128)) = some ((q.take 128).map (Value.int .u8)) := by
  rw [ykE hd1 _ (Nat.min_le_left _ _)]
  congr 2
  rcases Nat.le_total q.length 128 with h | h
  ·rw [Nat.min_eq_left h, List.take_of_length_le h, List.take_of_length_le (Nat.le_refl _)]
  ·rw [Nat.min_eq_right h]
 have xc := yeP (sz := 1) (c := 128) (l := 128) (o := 0) hm1 hgb rfl (by show 0 + 128 * 1 <= _; rw [hcells]; decide) hsrc
 have hq128 := List.length_take_le 128 q
 obtain ⟨o2, s2, _, _⟩ := yen (vs := (q.take 128).map (Value.int .u8)) ob 0 (by rw [List.length_map, zs_ok.1]; omega) (c := 128) (o := 0) (by rw [zs_ok.1]) hgb
 refine ⟨_, xc, ?_, x1.trans' s2.n fun b hb => s2.get b (by show b < H.n + 1; omega) fun ⟨o, l, c, e⟩ => by (cases e; omega)⟩
 have : OwnB H.n ((H.push ⟨rep 128 [.int .u8 0], 1, false, false⟩).set H.n ⟨splice (rep 128 [.int .u8 0]) (0 + 0) ((q.take 128).map (Value.int .u8)), 1, false, false⟩) (.slice (some ⟨H.n, 0, none⟩) 128 128) (spI zs128 0 (q.take 128)) := by
  unfold OwnB
  have e : (spI zs128 0 (q.take 128)).length = zs128.length := by rw [ydK _ _ _ (by rw [zs_ok.1]; omega)]
  rw [e, <- yiz]
  exact o2
 exact Own.le this hn
theorem ykK (f n : Nat) (c : Nat) : (c : Int) ∈ rngP f n ↔ f <= c /\ c < f + n := by
 unfold rngP
 rw [List.mem_map]
 constructor
 ·rintro ⟨j, hj, e⟩
  have := List.mem_range.1 hj
  omega
 ·rintro ⟨h1, h2⟩
  exact ⟨c - f, List.mem_range.2 (by omega), by omega⟩
set_option maxHeartbeats 16000000 in
theorem ype (T S : Int) (v w a2 a7 left : Value) (E n0 i k : Nat) (hi : i < 32) (L1 L : List (List Int)) (vs : List Value) (rs : List (Nat × Nat)) (p : Nat × Nat) (n : Nat) (cs0 nb data : List Int) (H : AH) (Q : XExit -> Fr -> AH -> Prop)
  (d : Dk n0 L.length H v vs L) (hn0 : n0 <= H.n) (h6 : 6 < L1.length) (hN : L1.length <= 240) (fi : FilI L1 L i cs0 nb data) (hcs : ∀ c ∈ cs0, 6 <= c) (hd8 : B8 data) (hdl : data.length <= 65535)
  (b : Bx H E [.int .i64 T, .int .i64 S, v]) (hE : Prot v vs E) (ow : SL RUNS H w rs) (hw : ∀ b, inB w b -> Prot v vs b) (hk : rs[k]? = some p) (hp6 : 6 <= p.1) (hpn : p.1 + n <= L1.length) (hnd : ∀ c, p.1 <= c -> c < p.1 + n -> (c : Int) ∉ cs0) (hneed : cs0.length + n <= need data.length)
  (hl : Byts H left (data.drop (128 * cs0.length))) (hlp : ∀ b, inB left b -> Prot v vs b) (hk2 : k < 1000)
  (hq : ∀ H' vs' L' left' b, Dk n0 L'.length H' v vs' L' -> FrD v vs vs' H H' -> FilI L1 L' i (cs0 ++ rngP p.1 n) nb data -> Byts H' left' (data.drop (128 * (cs0.length + n))) -> (∀ b, inB left' b -> inB left b) ->
   Q (.exit 2) [(2, a2), (3, .pointer (some ⟨E, 0, none⟩)), (7, a7), (8, w), (9, left'), (10, .int .i64 (k : Int)), (67, .int .i64 (n : Int)), (68, .int .i64 (n : Int)), (69, b)] H') :
  Run Tryz.prog tab (.loop ycG) [(2, a2), (3, .pointer (some ⟨E, 0, none⟩)), (7, a7), (8, w), (9, left), (10, .int .i64 (k : Int)), (67, .int .i64 (n : Int)), (68, .int .i64 0)] H Q := by
 have nb512 := ykU data.length hdl
 have hLL := fi.len
 refine yaz (fun s fr H' => ∃ vs' L' left', Dk n0 L'.length H' v vs' L' /\ FrD v vs vs' H H' /\ FilI L1 L' i (cs0 ++ rngP p.1 s) nb data /\ Byts H' left' (data.drop (128 * (cs0.length + s))) /\ (∀ b, inB left' b -> inB left b) /\ fr = [(2, a2), (3, .pointer (some ⟨E, 0, none⟩)), (7, a7), (8, w), (9, left'), (10, .int .i64 (k : Int)), (67, .int .i64 (n : Int)), (68, .int .i64 (s : Int))]) n ⟨vs, L, left, d, FrD.refl _ _ _, by simpa [rngP] using fi, by simpa using hl, fun _ h => h, rfl⟩ ?_ ?_
 ·rintro s hs fr H1 ⟨vs1, L1', left1, d1, f1, fi1, hl1, hb1, rfl⟩ J hJ
  have hlt : (s : Int) < (n : Int) := by omega
  have w3 := wrS s (by omega)
  have hN1 : L1'.length = L1.length := fi1.len
  have hj : cs0.length + s < need data.length := by omega
  have hjn := (yeF data.length (cs0.length + s)).1 hj
  have hlq : (data.drop (128 * (cs0.length + s))).length = data.length - 128 * (cs0.length + s) := List.length_drop
  have hkL := (List.getElem?_eq_some_iff.1 hk).1
  have hmk := ydQ (.int .u8 0) 128 (by omega) .i64 H1 128 rfl
  obtain ⟨H2, k2, o2, x2⟩ := ymX _ left1 H1 n0 (Nat.le_trans hn0 f1.n) hl1
  have hl2 : Byts H2 left1 (data.drop (128 * (cs0.length + s))) := Sl.ext x2 hl1
  obtain ⟨s3, k3, i3, b3⟩ : ∃ s', xslc H2 1 left1 (some (.int .i64 (Int.ofNat (Nat.min (data.drop (128 * (cs0.length + s))).length 128)))) none none = some s' /\ (∀ b, inB s' b ↔ inB left1 b) /\ Byts H2 s' (data.drop (128 * (cs0.length + (s + 1)))) := by
   obtain ⟨s', k1, _, k2', k4, _⟩ := yed (lo := some (.int .i64 (Int.ofNat (Nat.min (data.drop (128 * (cs0.length + s))).length 128)))) (hi := none) (i := Nat.min (data.drop (128 * (cs0.length + s))).length 128) (h := (data.drop (128 * (cs0.length + s))).length) hl2 (by omega) rfl rfl (Nat.min_le_left _ _) (Nat.le_refl _)
   refine ⟨s', k1, k2', ?_⟩
   rw [Nat.mul_one, Nat.mul_one, List.take_of_length_le (by rw [List.length_drop, List.length_map]; exact Nat.le_refl _), <- List.map_drop, List.drop_drop] at k4
   unfold Byts
   rcases Nat.le_total 128 (data.drop (128 * (cs0.length + s))).length with h | h
   ·have e1 : Nat.min (data.drop (128 * (cs0.length + s))).length 128 = 128 := Nat.min_eq_right h
    have e2 : 128 * (cs0.length + (s + 1)) = 128 * (cs0.length + s) + 128 := by omega
    rw [e1] at k4
    rw [e2]
    have e3 : (data.drop (128 * (cs0.length + s) + 128)).length = (data.drop (128 * (cs0.length + s))).length - 128 := by rw [List.length_drop, List.length_drop]; omega
    rw [e3]; exact k4
   ·have e1 : Nat.min (data.drop (128 * (cs0.length + s))).length 128 = (data.drop (128 * (cs0.length + s))).length := Nat.min_eq_left h
    rw [e1, Nat.sub_self] at k4
    have z1 : data.drop (128 * (cs0.length + (s + 1))) = [] := List.drop_eq_nil_of_le (by omega)
    have z2 : data.drop (128 * (cs0.length + s) + (data.drop (128 * (cs0.length + s))).length) = [] := List.drop_eq_nil_of_le (by omega)
    rw [z2] at k4
    rw [z1]; exact k4
  generalize hII : ((.ops [⟨some 97, .bin .add (.tmp 68) (.const (.int .i64 1)), none⟩, ⟨some 68, .mov (.tmp 97), none⟩] [2, 3, 7, 8, 9, 10, 67, 68]) : XCode) = II
  unfold ycG
  rw [hII]
  generalize hT2 : ((.seq (.dops (.mk ⟨some 77, _, _⟩ _ _ _ :: _) _) _) : XCode) = T2
  simp only [zZ, zY, q_b, q_d, q_B, q_L, q_M, q_N, Bool.false_and, zD, cond_false, q_W, qb_e, qb_k, qb_l, ev, xbin, ibin, if_true, if_false, Nat.reduceEqDiff, Nat.reduceLT, hlt, decide_true, hmk, k2, k3]
  have b1 := f1.bx b hE
  have bb2 := b1.ext x2
  have l2 := bb2.ld 2 v rfl
  have ow1 : SL RUNS H1 w rs := f1.sl ow hw
  have ow2 := ow1.ext x2
  have a1 := SL.at ow2 .i64 (k : Int) k rfl hkL
  rw [ycc] at a1
  have a2' := fun m => yfn (m := m) ow2 (by omega) 0 0 rfl (by omega)
  have a3 := SL.cell ow2 k p hk 0 _ rfl
  rw [ycc] at a3
  have wc : IntKind.i64.wrap ((p.1 : Int) + (s : Int)) = ((p.1 + s : Nat) : Int) := by rw [wrI _ (by omega) (by omega)]; omega
  have d2 := d1.ext x2
  have hcL : p.1 + s < L1'.length := by omega
  have ic := yau d2.own.1 .i64 ((p.1 + s : Nat) : Int) (p.1 + s) rfl hcL
  subst hT2
  generalize hT2 : ((.dops (.mk ⟨some 88, _, _⟩ _ _ _ :: _) _) : XCode) = T2
  rw [q_a]
  refine yaL _ _ _ _ _ rfl ?_
  simp only [zZ, zY, q_S, q_T, q_W, q_Z, v_ld, v_st, qb_h, ev, qb_v, xbin, ibin, if_true, if_false, Nat.reduceEqDiff, Nat.reduceLT, fldAk, l2, a1, ygA, a2', a3, wc, ic]
  obtain ⟨o1, o2'⟩ := yan o2.1
  refine yfm (j := p.1 + s) d2.own (by rw [d2.len]; exact hcL) o1 o2' ?_
  intro H3 o3 s3'
  have hbl : ∀ b, inB (.slice (some ⟨H1.n, 0, none⟩) 128 128) b -> b = H1.n := fun b hb => by obtain ⟨o, l, c, e⟩ := hb; cases e; rfl
  have pv : Prot v vs1 H1.n := Dk.prot d1 (Nat.le_refl _)
  have d3 := d2.repl (p.1 + s) (by omega) hcL (.slice (some ⟨H1.n, 0, none⟩) 128 128) _ o2 (fun b hb => by rw [hbl b hb]; exact pv.1) (fun j y hy b hb => by rw [hbl b hb]; exact pv.2 j y hy) o3 s3'
  rw [Nat.max_eq_left (by omega)] at d3
  have f3 : FrD v vs1 (vs1.set (p.1 + s) (.slice (some ⟨H1.n, 0, none⟩) 128 128)) H1 H3 := by
   refine ⟨Nat.le_trans x2.1 s3'.n, fun b hb hv hx => (s3'.get b (Nat.lt_of_lt_of_le hb x2.1) hv).trans (x2.2 b hb), fun j y hy => ?_, fun q hq => by rw [List.getElem?_set, if_neg (by omega)]⟩
   by_cases e : p.1 + s = j
   ·subst e
    rw [List.getElem?_set, if_pos rfl] at hy
    split at hy
    ·cases hy
     exact .inr fun b hb => by rw [hbl b hb]; omega
    ·cases hy
   ·exact .inl ⟨j, ybk e hy⟩
  have f13 := f1.trans f3
  have b3' := f13.bx b hE
  have l3 := b3'.ldn 3 rfl
  have ow3 : SL RUNS H3 w rs := f13.sl ow hw
  have c1 := SL.at ow3 .i64 (k : Int) k rfl hkL
  rw [ycc] at c1
  have c2 := fun m => yfn (m := m) ow3 (by omega) 0 0 rfl (by omega)
  have c3 := SL.cell ow3 k p hk 0 _ rfl
  rw [ycc] at c3
  subst hT2
  refine yaL _ _ _ _ _ rfl ?_
  simp only [zZ, zY, q_j, q_S, q_T, q_U, q_W, q_Z, v_ld, ev, qb_p, qb_q, xbin, ibin, if_true, if_false, Nat.reduceEqDiff, Nat.reduceLT, l3, c1, ygA, c2, c3, wc]
  have hblk : spI zs128 0 ((data.drop (128 * (cs0.length + s))).take 128) = blkP data (cs0 ++ rngP p.1 s).length := by
   rw [List.length_append, yc6]; rfl
  rw [hblk] at d3
  have hcm : ∀ c ∈ cs0 ++ rngP p.1 s, 6 <= c := fun c hc => by
   rcases List.mem_append.1 hc with h | h
   ·exact hcs c h
   ·unfold rngP at h
    obtain ⟨j, _, rfl⟩ := List.mem_map.1 h
    omega
  have fi4 := fi1.sector hi h6 hcm hd8 (p.1 + s) (by omega) (by omega) (by omega) (fun h => by
   rcases List.mem_append.1 h with h | h
   ·exact hnd (p.1 + s) (by omega) (by omega) h
   ·have := (ykK p.1 s (p.1 + s)).1 h; omega)
  have s8 : ∀ l ∈ L1'.set (p.1 + s) (blkP data (cs0 ++ rngP p.1 s).length), SecOk l := fun l hl => by
   rcases List.mem_or_eq_of_mem_set hl with h1 | rfl
   ·exact fi1.h8 l h1
   ·exact ykp data hd8 _
  refine yiw T S v _ (L1'.set (p.1 + s) (blkP data (cs0 ++ rngP p.1 s).length)) n0 (p.1 + s) true H3 _ (by rw [List.length_set]; exact d3) s8 (by rw [List.length_set]; omega) (by omega) ?_
  intro H4 uu d4 f4
  subst hII
  have f14 := f13.trans (FrD.frm (v := v) f4)
  have hlt2 : ∀ b, inB s3 b -> inB left b := fun b hb => hb1 b ((i3 b).1 hb)
  have hb4 : Byts H4 s3 (data.drop (128 * (cs0.length + (s + 1)))) := by
   refine Sl.same b3 (Nat.le_trans s3'.n f4.n) fun b hb => ?_
   have hlb := hlt2 b hb
   have hbn : b < H.n := hl.lt hlb
   have hp1 := f1.prot hbn (hlp b hlb)
   have hb2 : b < H2.n := Nat.lt_of_lt_of_le hbn (Nat.le_trans f1.n x2.1)
   have e1 := s3'.get b hb2 hp1.1
   have hp3 := f13.prot hbn (hlp b hlb)
   have e2 := f4.get b (Nat.lt_of_lt_of_le hb2 s3'.n) hp3.2
   exact e2.trans e1
  simp only [zZ, zY, q_W, ev, xbin, ibin, if_true, if_false, Nat.reduceEqDiff, Nat.reduceLT, w3]
  refine hJ _ _ ⟨_, mrkL (L1'.set (p.1 + s) (blkP data (cs0 ++ rngP p.1 s).length)) (p.1 + s) true, s3, ?_, f14, ?_, hb4, hlt2, rfl⟩
  ·rw [yfV]; exact d4
  ·have e : cs0 ++ rngP p.1 (s + 1) = (cs0 ++ rngP p.1 s) ++ [((p.1 + s : Nat) : Int)] := by rw [ygH, List.append_assoc]
   rw [e]; exact fi4
 ·rintro fr H1 ⟨vs1, L1', left1, d1, f1, fi1, hl1, hb1, rfl⟩
  simp only [zZ, zY, ycG, q_b, q_e, q_h, q_C, q_L, q_M, q_N, Bool.false_and, zD, cond_false, q_W, qb_e, qb_k, qb_l, ev, xbin, ibin, if_true, if_false, Nat.reduceEqDiff, Nat.reduceLT, Int.lt_irrefl, decide_false]
  exact hq H1 vs1 L1' left1 _ d1 f1 fi1 hl1 hb1
theorem ymh (n dn : Nat) (h : n <= 65535) (hd : dn < need n) : IntKind.i64.wrap ((IntKind.i64.wrap (IntKind.i64.wrap (((n - 128 * dn : Nat) : Int) + 128) - 1)).tdiv 128) = ((need n - dn : Nat) : Int) := by
 have h1 := (yeF n dn).1 hd
 rw [wrI (((n - 128 * dn : Nat) : Int) + 128) (by omega) (by omega), wrI (((n - 128 * dn : Nat) : Int) + 128 - 1) (by omega) (by omega), Int.tdiv_eq_ediv_of_nonneg (by omega), wrI _ (by omega) (by omega)]
 unfold need at hd ⊢
 omega
theorem yo2 (a b : Nat) : (if (b : Int) < (a : Int) then (b : Int) else (a : Int)) = ((min a b : Nat) : Int) := by split <;> omega
theorem SlV.low {vs vs' : List Value} {i : Nat} {s : Value} (h : SlV vs i s) (hi : i < 32) (hl : ∀ q : Nat, q < 6 -> vs'[q]? = vs[q]?) : SlV vs' i s := by
 obtain ⟨x, B, o, c, c', h1, h2⟩ := h
 exact ⟨x, B, o, c, c', by rw [hl _ (by omega)]; exact h1, h2⟩
set_option maxHeartbeats 16000000 in
theorem ymC {L : List (List Int)} {G : Nat -> Option Nd} (R : FRep L G) (hN : L.length <= 43) {i : Nat} {x : Nd} (hi : i < 32) (hx : G i = some x) (T S : Int) (v : Value) (vs : List Value) (n0 : Nat) (dv : Value) (data : List Int) (H : AH) (Q : Value -> AH -> Prop) (d : Dk n0 L.length H v vs L) (hn0 : n0 <= H.n) (hd : Byts H dv data) (hdp : ∀ b, inB dv b -> Prot v vs b) (hd8 : B8 data) (hn4 : need data.length <= 4)
  (hroom : ∀ L1, Fre L L1 i (chP x.ps) -> need data.length <= (freeS L1 L1.length).length)
  (hq : ∀ H' vs' L' ps, Dk n0 L'.length H' v vs' L' -> L'.length = L.length -> FRep L' (updN G i (some ⟨x.kd, x.par, ps, data⟩)) -> FrD v vs vs' H H' -> Q (.int .i64 0) H') :
  Got (xc Tryz.prog tab 59 [.agg #[.int .i64 T, .int .i64 S, v], .int .i64 (i : Int), dv] H) Q := by
 have h8 := R.h8
 have h6 := R.h6
 have hdl : data.length <= 512 := by unfold need at hn4; omega
 have hbi : 2 + i / 8 < L.length := R.bnd hi
 refine yac (res := [.tmp 6]) rfl ?_
 have vA : vcells (.agg #[.int .i64 T, .int .i64 S, v]) = [.int .i64 T, .int .i64 S, v] := rfl
 have b := Bx.new H [.int .i64 T, .int .i64 S, v]
 have xx := yab H ⟨[.int .i64 T, .int .i64 S, v], 1, false, false⟩
 have hHn : (H.push ⟨[.int .i64 T, .int .i64 S, v], 1, false, false⟩).n = H.n + 1 := rfl
 have pE : Prot v vs H.n := Dk.prot d (Nat.le_refl _)
 generalize hTT : ((.seq (.ops (⟨some 14, _, _⟩ :: _) _) _) : XCode) = TT
 simp only [zZ, zY, ofArgs, qb_j, ev, if_true, if_false, reduceCtorEq, Nat.reduceEqDiff, Nat.reduceLT, Nat.zero_add, Nat.reduceAdd, vA]
 generalize H.push ⟨[.int .i64 T, .int .i64 S, v], 1, false, false⟩ = H1 at *
 have ldn := b.ldn 3 rfl
 have d1 := d.ext xx
 subst hTT
 generalize hTT : ((.seq (.ops (⟨some 17, _, _⟩ :: _) _) _) : XCode) = TT
 simp only [zZ, zY, q_U, v_ld, ev, qb_p, qb_q, if_true, if_false, Nat.reduceEqDiff, Nat.reduceLT, ldn]
 refine yo5 T S d1 h8 h6 R.h240 hi (R.pcok hi hx) _ ?_
 intro H2 L1 d2 f2 fre
 have b2 := f2.bx b pE.2
 have l2 := b2.ldn 3 rfl
 have hL1 := fre.len
 have d2' : Dk n0 L1.length H2 v vs L1 := by rw [hL1]; exact d2
 subst hTT
 generalize hTT : ((.seq (.ops (⟨some 20, _, _⟩ :: _) _) _) : XCode) = TT
 simp only [zZ, zY, q_U, v_ld, ev, qb_p, qb_q, if_true, if_false, Nat.reduceEqDiff, Nat.reduceLT, l2]
 refine yiC T S d2' fre.h8 (by rw [hL1]; exact hbi) (by omega) _ ?_
 intro H3 s x3 sv
 have b3 := b2.ext x3
 have l3 := b3.ldn 3 rfl
 have d3 := d2'.ext x3
 subst hTT
 generalize hTT : ((.seq (.ops (⟨some 22, _, _⟩ :: _) _) _) : XCode) = TT
 simp only [zZ, zY, q_U, v_ld, ev, qb_p, qb_q, if_true, if_false, Nat.reduceEqDiff, Nat.reduceLT, l3]
 refine yoz T S v L1 H3 _ d3.secs fre.h8 (by omega) (by omega) ?_
 intro H4 w rs0 ow rn x4
 have b4 := b3.ext x4
 have d4 := d3.ext x4
 subst hTT
 generalize hTT : ((.seq (.ops (⟨some 24, _, _⟩ :: _) _) _) : XCode) = TT
 simp only [zZ, zY, q_U, ev, qb_p, qb_q, if_true, if_false, Nat.reduceEqDiff, Nat.reduceLT]
 refine yjZ rs0 (fun p hp => by have := rn.rg p hp; omega) (by have := rn.b1; omega) H3.n w H4 _ x4.1 ow ?_
 intro H5 rs hp o5 s5
 have hwge : ∀ b, inB w b -> H3.n <= b := fun b hb => Own.geB ow hb
 have hwp : ∀ b, inB w b -> Prot v vs b := fun b hb => Dk.prot d3 (hwge b hb)
 have x45 : HExt H3 H5 := Keep.trans (n0 := H3.n) x4 (s5.keep ow x4.1)
 have d5 : Dk n0 L1.length H5 v vs L1 := d3.ext x45
 have b5 := b3.ext x45
 have F15 : FrD v vs vs H H5 := (FrD.ext xx).trans ((FrD.frm f2).trans (FrD.ext (x3.trans x45)))
 have hd5 : Byts H5 dv data := F15.sl hd hdp
 have hm : need data.length <= (chP rs).length := by
  rw [(yf2 hp).length_eq, rn.ch]
  exact hroom L1 fre
 have hrp : ∀ p ∈ rs, 6 <= p.1 /\ 1 <= p.2 /\ p.1 + p.2 <= L1.length := fun p hp' => rn.rg p (hp.mem_iff.1 hp')
 have htl : (tk rs (need data.length)).length <= need data.length := yn7 rs _ fun p hp' => (hrp p hp').2.1
 have hnd : (chP (tk rs (need data.length))).Nodup := by
  have h1 : (chP rs0).Nodup := by rw [rn.ch]; exact yeI L1 _
  exact ((yf2 hp).nodup_iff.2 h1).sublist (ykx rs _)
 have hcl := tk_cl rs _ hm
 have key := fun k => yn8 rs (need data.length) k (fun p hp' => (hrp p hp').2.1) hm
 have fin := fun L' => ymt (L' := L') R hi hx fre rn hp data hd8 (by omega) hm (by omega)
 have hnod1 : nod L1 i = nodB x.kd x.par 0 [] := by
  rw [fre.nod i, if_pos rfl, (R.nod i x hi hx).2]
  exact yjw _ _ _ _ (R.nod i x hi hx).1.n4
 generalize hps : tk rs (need data.length) = ps at *
 generalize hmm : need data.length = m at *
 subst hTT
 generalize hTT : ((.seq (.ops (⟨some 98, _, _⟩ :: _) _) _) : XCode) = TT
 simp only [zZ, zY, q_b, ev, if_true, if_false, Nat.reduceEqDiff, Nat.reduceLT]
 refine yaz (fun k fr H' => ∃ vs' L' left, Dk n0 L'.length H' v vs' L' /\ FrD v vs vs' H5 H' /\ FilI L1 L' i (chP (ps.take k)) (nodB x.kd x.par 0 (ps.take k)) data /\ Byts H' left (data.drop (128 * (chP (ps.take k)).length)) /\ (∀ b, inB left b -> inB dv b) /\ fr = [(2, dv), (3, .pointer (some ⟨H.n, 0, none⟩)), (7, s), (8, w), (9, left), (10, .int .i64 (k : Int))]) ps.length
  ⟨vs, L1, dv, d5, FrD.refl _ _ _, (by have := FilI.start fre.h8 i data; rw [hnod1] at this; exact this), (by simpa [chP] using hd5), fun _ h => h, rfl⟩ ?_ ?_
 ·rintro k hk fr H6 ⟨vs6, L6, left, d6, f6, fi6, hl6, hb6, rfl⟩ J hJ
  obtain ⟨p, hp1, hp2, hp3⟩ := key k hk
  have hkr := (List.getElem?_eq_some_iff.1 hp1).1
  obtain ⟨q1, q2, q3⟩ := hrp p (List.mem_of_getElem? hp1)
  have htk : ps.take (k + 1) = ps.take k ++ [(p.1, min p.2 (m - (chP (ps.take k)).length))] := yal _ _ _ hp2
  have hk4 : k < 4 := by omega
  have hlen6 : L6.length = L1.length := fi6.len
  generalize hdn : (chP (ps.take k)).length = dn at *
  generalize hnn : min p.2 (m - dn) = n at *
  have hn1 : 1 <= n := by omega
  have hnle : n <= p.2 := by omega
  have hj := (yeF data.length dn).1 (by rw [hmm]; exact hp3)
  have hll : (data.drop (128 * dn)).length = data.length - 128 * dn := List.length_drop
  have ll := yaY hl6
  rw [hll] at ll
  have cgt : ((data.length - 128 * dn : Nat) : Int) > 0 := by omega
  have c4 : ((k : Int) == 4) = false := by rw [beq_eq_false_iff_ne]; omega
  have ow6 : SL RUNS H6 w rs := f6.sl o5.1 hwp
  have lw := SL.len_ok ow6
  have ckr : ((k : Int) == (rs.length : Int)) = false := by rw [beq_eq_false_iff_ne]; omega
  have a1 := SL.at ow6 .i64 (k : Int) k rfl hkr
  rw [ycc] at a1
  have a2 := fun m => yfn (m := m) ow6 (by omega) 0 0 rfl (by omega)
  have a3 := fun m => yfn (m := m) ow6 (by omega) 1 1 rfl (by omega)
  have a4 := SL.cell ow6 k p hp1 0 _ rfl
  have a5 := SL.cell ow6 k p hp1 1 _ rfl
  rw [ycc] at a4 a5
  have wn := ymh data.length dn (by omega) (by rw [hmm]; exact hp3)
  rw [hmm] at wn
  have z128 : ¬ ((128 : Int) = 0) := by omega
  have mi := yo2 p.2 (m - dn)
  rw [hnn] at mi
  have w3 := wrS k (by omega)
  have wa : IntKind.i64.wrap (4 + IntKind.i64.wrap (2 * (k : Int))) = ((4 + 2 * k : Nat) : Int) := by rw [wrI (2 * (k : Int)) (by omega) (by omega), wrI _ (by omega) (by omega)]; omega
  have wb : IntKind.i64.wrap (5 + IntKind.i64.wrap (2 * (k : Int))) = ((5 + 2 * k : Nat) : Int) := by rw [wrI (2 * (k : Int)) (by omega) (by omega), wrI _ (by omega) (by omega)]; omega
  have cv1 := fun H => yc8 (p.1 : Int) (by omega) (by omega) H
  have cv2 := fun H => yc8 (n : Int) (by omega) (by omega) H
  have sv6 : SlV vs6 i s := sv.low hi fun q hq => f6.low q hq
  have hb6L : 2 + i / 8 < L6.length := by omega
  have by6 := sv6.byts d6 fi6.h8 hb6L
  have hn16 := ycE L6 i fi6.h8 hb6L
  have ia := yam by6 ((4 + 2 * k : Nat) : Int) (4 + 2 * k) rfl (by omega)
  generalize hII : ((.ops [⟨some 28, .mov (.tmp 10), none⟩, ⟨some 29, .bin .add (.tmp 28) (.const (.int .i64 1)), none⟩, ⟨some 10, .mov (.tmp 29), none⟩] [2, 3, 7, 8, 9, 10]) : XCode) = II
  unfold ydD
  rw [hII]
  generalize hT2 : ((.ret) : XCode) = T2
  simp only [zZ, zY, q_b, q_d, q_t, q_B, q_C, q_D, q_H, q_W, q_X, q_Z, v_ld, v_st, qb_f, qb_o, ev, qb_v, xbin, ibin, if_true, if_false, Nat.reduceEqDiff, Nat.reduceLT, ll, cgt, decide_true, c4, lw, ckr, a1, ygA, a2, a3, a4, a5, z128, wn, mi, wa, wb, cv1, cv2, ia]
  refine sv6.set d6 fi6.h8 hb6L (4 + 2 * k) (by omega) _ ?_
  intro H7 d7 f7
  have hcs6 : ∀ c ∈ chP (ps.take k), 6 <= c := fun c hc => by
   unfold chP at hc
   obtain ⟨q, hq, hc⟩ := List.mem_flatMap.1 hc
   obtain ⟨r', g1, g2, _⟩ := yky rs m q (by rw [hps]; exact List.mem_of_mem_take hq)
   have := hrp r' g1
   unfold rngP at hc
   obtain ⟨j, _, rfl⟩ := List.mem_map.1 hc
   omega
  have fi7 := fi6.byte hi (by omega) hcs6 (4 + 2 * k) (by omega) (p.1 : Int) (by omega)
  have d7' : Dk n0 (ndS L6 i (4 + 2 * k) [(p.1 : Int)]).length H7 v vs6 (ndS L6 i (4 + 2 * k) [(p.1 : Int)]) := by rw [ya8]; exact d7
  have by7 := sv6.byts d7' fi7.h8 (by rw [ya8]; exact hb6L)
  have hn17 := ycE _ i fi7.h8 (by rw [ya8]; exact hb6L)
  have ib := yam by7 ((5 + 2 * k : Nat) : Int) (5 + 2 * k) rfl (by omega)
  simp only [q_q, ib]
  refine sv6.set d7' fi7.h8 (by rw [ya8]; exact hb6L) (5 + 2 * k) (by omega) _ ?_
  intro H8 d8 f8
  have fi8 := fi7.byte hi (by omega) hcs6 (5 + 2 * k) (by omega) (n : Int) (by omega)
  have hkl : (ps.take k).length = k := by rw [List.length_take]; omega
  have hpush := ymg x.kd x.par 0 (ps.take k) (by omega) p.1 n
  rw [hkl, <- htk] at hpush
  rw [hpush] at fi8
  have f68 : FrD v vs6 vs6 H6 H8 := (FrD.frm f7).trans (FrD.frm f8)
  have f58 := f6.trans f68
  have b8 := f58.bx b5 pE
  have ow8 : SL RUNS H8 w rs := f58.sl o5.1 hwp
  have hwlt : ∀ b, inB w b -> b < H5.n := fun b hb => o5.1.lt hb
  have hwp8 : ∀ b, inB w b -> Prot v vs6 b := fun b hb => f58.prot (hwlt b hb) (hwp b hb)
  have pE8 : Prot v vs6 H.n := f58.prot b5.2 pE
  have hlp8 : ∀ b, inB left b -> Prot v vs6 b := fun b hb => f58.prot (hd5.lt (hb6 b hb)) (hdp b (hb6 b hb))
  have hl8 : Byts H8 left (data.drop (128 * dn)) := f68.sl hl6 fun b hb => f6.prot (hd5.lt (hb6 b hb)) (hdp b (hb6 b hb))
  have hchn : chP (ps.take (k + 1)) = chP (ps.take k) ++ rngP p.1 n := by rw [htk, yes]
  have hnd1 : (chP (ps.take (k + 1))).Nodup := by
   have : chP ps = chP (ps.take (k + 1)) ++ chP (ps.drop (k + 1)) := by rw [<- ypp, List.take_append_drop]
   rw [this] at hnd
   exact (List.nodup_append.1 hnd).1
  rw [hchn] at hnd1
  subst hT2
  refine ype T S v w dv s left H.n n0 i k hi L1 _ vs6 rs p n (chP (ps.take k)) _ data H8 _ (by rw [ya8]; exact d8) (Nat.le_trans hn0 (Nat.le_trans F15.n f58.n)) (by omega) (by omega) fi8 hcs6 hd8 (by omega) b8 pE8 ow8 hwp8 hp1 q1 (by omega) (fun c h1 h2 hm' => ?_) (by rw [hdn, hmm]; omega) (by rw [hdn]; exact hl8) hlp8 (by omega) ?_
  ·have h3 : (c : Int) ∈ rngP p.1 n := (ykK p.1 n c).2 ⟨h1, h2⟩
   exact (List.nodup_append.1 hnd1).2.2 _ hm' _ h3 rfl
  ·intro H9 vs9 L9 left9 bb d9 f9 fi9 hl9 hb9
   subst hII
   simp only [zZ, zY, q_h, q_j, q_k, q_W, ev, xbin, ibin, if_true, if_false, Nat.reduceEqDiff, Nat.reduceLT, w3]
   refine hJ _ _ ⟨vs9, L9, left9, d9, f58.trans f9, ?_, ?_, fun b hb => hb6 b (hb9 b hb), rfl⟩
   ·rw [hchn]; exact fi9
   ·rw [hchn, List.length_append, yc6]; exact hl9
 ·rintro fr H6 ⟨vs6, L6, left, d6, f6, fi6, hl6, hb6, rfl⟩
  rw [List.take_length] at fi6 hl6
  rw [hcl] at hl6
  have hnil : data.drop (128 * m) = [] := List.drop_eq_nil_of_le (by rw [<- hmm]; unfold need; omega)
  rw [hnil] at hl6
  have ll := yaY hl6
  have cgt : ¬ (((([] : List Int).length : Nat) : Int) > 0) := by simp
  have hlen6 : L6.length = L1.length := fi6.len
  have sv6 : SlV vs6 i s := sv.low hi fun q hq => f6.low q hq
  have hb6L : 2 + i / 8 < L6.length := by omega
  have by6 := sv6.byts d6 fi6.h8 hb6L
  have hn16 := ycE L6 i fi6.h8 hb6L
  have ia := yam by6 2 2 rfl (by omega)
  have hd6 : Byts H6 dv data := f6.sl hd5 hdp
  have ld := yaY hd6
  have sh : ((data.length : Nat) : Int).fdiv (2 ^ (min (Int.toNat 8) IntKind.i64.bits)) = ((data.length / 256 : Nat) : Int) := shr8N data.length
  have n8 : ¬ ((8 : Int) < 0) := by decide
  have cv1 := fun H => yc8 ((data.length / 256 : Nat) : Int) (by omega) (by omega) H
  have cv2 := fun H => yjs data.length H
  have hcs6 : ∀ c ∈ chP ps, 6 <= c := fun c hc => by
   unfold chP at hc
   obtain ⟨q, hq, hc⟩ := List.mem_flatMap.1 hc
   obtain ⟨r', g1, g2, _⟩ := yky rs m q (by rw [hps]; exact hq)
   have := hrp r' g1
   unfold rngP at hc
   obtain ⟨j, _, rfl⟩ := List.mem_map.1 hc
   omega
  subst hTT
  generalize hTT : ((.seq (.ops (⟨some 6, _, _⟩ :: []) _) _) : XCode) = TT
  simp only [zZ, zY, ydD, q_b, q_e, q_h, q_k, q_C, q_H, q_W, q_X, q_Z, v_ld, v_st, qb_f, ev, qb_v, xbin, ibin, if_true, if_false, Nat.reduceEqDiff, Nat.reduceLT, ll, cgt, decide_false, ld, n8, sh, cv1, cv2, ia]
  refine sv6.set d6 fi6.h8 hb6L 2 (by omega) _ ?_
  intro H7 d7 f7
  have fi7 := fi6.byte hi (by omega) hcs6 2 (by omega) ((data.length / 256 : Nat) : Int) (by omega)
  have d7' : Dk n0 (ndS L6 i 2 [((data.length / 256 : Nat) : Int)]).length H7 v vs6 (ndS L6 i 2 [((data.length / 256 : Nat) : Int)]) := by rw [ya8]; exact d7
  have by7 := sv6.byts d7' fi7.h8 (by rw [ya8]; exact hb6L)
  have hn17 := ycE _ i fi7.h8 (by rw [ya8]; exact hb6L)
  have ib := yam by7 3 3 rfl (by omega)
  simp only [q_q, ib]
  refine sv6.set d7' fi7.h8 (by rw [ya8]; exact hb6L) 3 (by omega) _ ?_
  intro H8 d8 f8
  have fi8 := fi7.byte hi (by omega) hcs6 3 (by omega) ((data.length % 256 : Nat) : Int) (by omega)
  rw [ymf x.kd x.par data.length ps (by omega)] at fi8
  subst hTT
  simp only [zZ, zY, q_f, q_m, ev, qb_A, qb_B, qb_C, resV, qb_D, if_true]
  refine hq H8 vs6 _ ps (by rw [ya8]; exact d8) (by rw [ya8, ya8, hlen6, hL1]) (fin _ fi8) (F15.trans (f6.trans ((FrD.frm f7).trans (FrD.frm f8))))
structure FrX (X : Nat -> Prop) (v : Value) (vs vs' : List Value) (H H' : AH) : Prop where
 n : H.n <= H'.n
 get : ∀ b, b < H.n -> ¬ X b -> Prot v vs b -> H'.get b = H.get b
 new : ∀ (i : Nat) (x : Value), vs'[i]? = some x -> (∃ j : Nat, vs[j]? = some x) \/ ∀ b, inB x b -> H.n <= b
 low : ∀ q : Nat, q < 6 -> vs'[q]? = vs[q]?
theorem FrX.of {X : Nat -> Prop} {v : Value} {vs vs' : List Value} {A B : AH} (h : FrD v vs vs' A B) : FrX X v vs vs' A B := ⟨h.n, fun b hb _ p => h.get b hb p.1 p.2, h.new, h.low⟩
theorem FrX.prot {X : Nat -> Prop} {v : Value} {vs vs' : List Value} {A B : AH} (h : FrX X v vs vs' A B) {b : Nat} (hb : b < A.n) (p : Prot v vs b) : Prot v vs' b := by
 refine ⟨p.1, fun i x hi hin => ?_⟩
 rcases h.new i x hi with ⟨j, hj⟩ | h2
 ·exact p.2 j x hj hin
 ·have := h2 b hin; omega
theorem FrX.trans {X : Nat -> Prop} {v : Value} {vs vs1 vs2 : List Value} {A B C : AH} (h : FrX X v vs vs1 A B) (k : FrX X v vs1 vs2 B C) : FrX X v vs vs2 A C := by
 refine ⟨Nat.le_trans h.n k.n, fun b hb hX p => ?_, fun i x hi => ?_, fun q hq => (k.low q hq).trans (h.low q hq)⟩
 ·exact (k.get b (Nat.lt_of_lt_of_le hb h.n) hX (h.prot hb p)).trans (h.get b hb hX p)
 ·rcases k.new i x hi with ⟨j, hj⟩ | h2
  ·rcases h.new j x hj with ⟨m, hm⟩ | h3
   ·exact .inl ⟨m, hm⟩
   ·exact .inr h3
  ·exact .inr fun b hb => Nat.le_trans h.n (h2 b hb)
theorem FrX.imp {X Y : Nat -> Prop} {v : Value} {vs vs' : List Value} {A B : AH} (h : FrX X v vs vs' A B) (hi : ∀ b, b < A.n -> X b -> Y b) : FrX Y v vs vs' A B := ⟨h.n, fun b hb hy p => h.get b hb (fun hx => hy (hi b hb hx)) p, h.new, h.low⟩
theorem FrX.sl {X : Nat -> Prop} {v : Value} {vs vs' : List Value} {A B : AH} (h : FrX X v vs vs' A B) {sz n : Nat} {s : Value} {cs : List Value} (hs : Sl A sz s n cs) (p : ∀ b, inB s b -> ¬ X b /\ Prot v vs b) : Sl B sz s n cs := Sl.same hs h.n fun b hb => h.get b (hs.lt hb) (p b hb).1 (p b hb).2
theorem FrX.bx {X : Nat -> Prop} {v : Value} {vs vs' : List Value} {A B : AH} (h : FrX X v vs vs' A B) {E : Nat} {cs : List Value} (b : Bx A E cs) (hX : ¬ X E) (p : Prot v vs E) : Bx B E cs := b.same h.n (h.get E b.2 hX p)
def zs32 : List Int := List.replicate 32 0
theorem ymM {p : List Int × Nat} (h : ItOk p) : (spI zs32 0 p.1).set 20 (p.2 : Int) = entE p := by
 have hl := h.len.1
 have e1 : spI zs32 0 p.1 = (p.1 ++ List.replicate (20 - p.1.length) 0) ++ (0 :: List.replicate 11 0) := by
  unfold spI zs32
  rw [List.take_zero, List.nil_append, Nat.zero_add, List.drop_replicate, List.append_assoc]
  congr 1
  have : (0 : Int) :: List.replicate 11 0 = List.replicate 12 0 := rfl
  rw [this, List.replicate_append_replicate]
  congr 1; omega
 have e2 : entE p = (p.1 ++ List.replicate (20 - p.1.length) 0) ++ ((p.2 : Int) :: List.replicate 11 0) := by simp [entE]
 have l20 : (p.1 ++ List.replicate (20 - p.1.length) (0 : Int)).length = 20 := by rw [List.length_append, List.length_replicate]; omega
 rw [e1, e2, List.set_append_right _ _ (by omega), l20, Nat.sub_self, List.set_cons_zero]
theorem ymP (its : List (List Int × Nat)) (p : List Int × Nat) : dirB (its ++ [p]) = dirB its ++ entE p := by simp [dirB]
theorem yph {p : List Int × Nat} (h : ItOk p) : B8 (entE p) := by
 have := h.nd
 unfold entE
 refine yfH (yfH (yfH h.n8 (ym1 _)) (fun b hb => ?_)) (ym1 _)
 rw [List.mem_singleton.1 hb]; omega
theorem ymQ : ∀ (its : List (List Int × Nat)), (∀ p ∈ its, ItOk p) -> B8 (dirB its)
 | [], _ => yfG
 | p :: r, h => by
  have e : dirB (p :: r) = entE p ++ dirB r := by simp [dirB]
  rw [e]
  exact yfH (yph (h p (by simp))) (ymQ r fun q hq => h q (by simp [hq]))
set_option maxHeartbeats 16000000 in
theorem ym6 {L : List (List Int)} {G : Nat -> Option Nd} (R : FRep L G) (hN : L.length <= 43) {i : Nat} {x : Nd} (hi : i < 32) (hx : G i = some x) (T S : Int) (v : Value) (vs : List Value) (n0 : Nat) (w : Value) (its : List (List Int × Nat)) (nw : Nat) (H : AH) (Q : Value -> AH -> Prop) (d : Dk n0 L.length H v vs L) (hn0 : n0 <= H.n)
  (ow : OL ITS nw H w its) (hnw : nw <= H.n) (hwp : ∀ b, inB w b -> Prot v vs b) (hs : Srt its) (hok : ∀ p ∈ its, ItOk p) (hl : its.length <= 12)
  (hroom : ∀ L1, Fre L L1 i (chP x.ps) -> need (32 * its.length) <= (freeS L1 L1.length).length)
  (hq : ∀ H' vs' L' ps, Dk n0 L'.length H' v vs' L' -> L'.length = L.length -> FRep L' (updN G i (some ⟨x.kd, x.par, ps, dirB its⟩)) -> FrX (inB w) v vs vs' H H' -> Q (.int .i64 0) H') :
  Got (xc Tryz.prog tab 43 [.agg #[.int .i64 T, .int .i64 S, v], .int .i64 (i : Int), w] H) Q := by
 refine yac (res := [.tmp 6]) rfl ?_
 have vA : vcells (.agg #[.int .i64 T, .int .i64 S, v]) = [.int .i64 T, .int .i64 S, v] := rfl
 have b := Bx.new H [.int .i64 T, .int .i64 S, v]
 have xx := yab H ⟨[.int .i64 T, .int .i64 S, v], 1, false, false⟩
 have hHn : (H.push ⟨[.int .i64 T, .int .i64 S, v], 1, false, false⟩).n = H.n + 1 := rfl
 have pE : Prot v vs H.n := Dk.prot d (Nat.le_refl _)
 have hEw : ¬ inB w H.n := fun h => by have := ow.1.lt h; omega
 generalize hTT : ((.seq (.ops (⟨some 11, _, _⟩ :: _) _) _) : XCode) = TT
 simp only [zZ, zY, ofArgs, qb_j, ev, if_true, if_false, reduceCtorEq, Nat.reduceEqDiff, Nat.reduceLT, Nat.zero_add, Nat.reduceAdd, vA]
 generalize H.push ⟨[.int .i64 T, .int .i64 S, v], 1, false, false⟩ = H1 at *
 have o1 := ow.ext xx
 subst hTT
 generalize hTT : ((.seq (.ops (⟨some 7, _, _⟩ :: []) _) _) : XCode) = TT
 simp only [zZ, zY, q_U, ev, qb_p, qb_q, if_true, if_false, Nat.reduceEqDiff, Nat.reduceLT]
 refine ylY its hs hl nw w H1 _ (Nat.le_trans hnw xx.1) o1 ?_
 intro H2 o2 s2
 have f02 : FrX (inB w) v vs vs H H2 := ⟨Nat.le_trans xx.1 s2.n, fun b hb hX _ => (s2.get b (Nat.lt_of_lt_of_le hb xx.1) hX).trans (xx.2 b hb), fun j y hy => .inl ⟨j, hy⟩, fun _ _ => rfl⟩
 have d2 : Dk n0 L.length H2 v vs L := (d.ext xx).same s2.n (fun b hb => s2.get b ((d.ext xx).own.1.lt hb) fun h => (hwp b h).1 hb) (fun j y hy b hb => s2.get b ((d.ext xx).lt j y hy hb) fun h => (hwp b h).2 j y hy hb)
 have b2 := ykC s2 b hEw
 have lw := SL.len_ok o2.1
 subst hTT
 generalize hTT : ((.seq (.ops (⟨some 33, _, _⟩ :: _) _) _) : XCode) = TT
 simp only [zZ, zY, q_b, q_X, ev, if_true, if_false, Nat.reduceEqDiff, Nat.reduceLT, lw]
 refine yaz (fun k fr H' => ∃ bv, OwnB H2.n H' bv (dirB (its.take k)) /\ HExt H2 H' /\ fr = [(1, .int .i64 (i : Int)), (3, .pointer (some ⟨H.n, 0, none⟩)), (7, bv), (13, w), (14, .int .i64 (its.length : Int)), (15, .int .i64 (k : Int))]) its.length ⟨.slice none 0 0, Own.nil _ _ _, HExt.refl H2, rfl⟩ ?_ ?_
 ·rintro k hk fr H3 ⟨bv, ob, x3, rfl⟩ J hJ
  obtain ⟨p, hp⟩ : ∃ p, its[k]? = some p := ⟨_, List.getElem?_eq_getElem hk⟩
  have okp := hok p (List.mem_of_getElem? hp)
  obtain ⟨pl20, pl32⟩ := okp.len
  have hlt : (k : Int) < (its.length : Int) := by omega
  have w3 := wrS k (by omega)
  have o3 := o2.ext x3
  have a1 := SL.at o3.1 .i64 (k : Int) k rfl hk
  have a2 := SL.ldk o3.1 k p hp
  have hitsf : ITS.f p = [.string (sB p.1), .int .i64 (p.2 : Int)] := rfl
  rw [yep] at a1 a2
  rw [hitsf] at a2
  have hall : ([.string (sB p.1), .int .i64 (p.2 : Int)] : List Value).all one = true := rfl
  have st4 := (Bx.new H3 [.string (ByteArray.mk #[]), .int .i64 0]).stn 2 [.string (sB p.1), .int .i64 (p.2 : Int)] rfl rfl hall
  have c4 := Bx.mk H3 [.string (ByteArray.mk #[]), .int .i64 0] [.string (sB p.1), .int .i64 (p.2 : Int)]
  have x4 : HExt H3 ((H3.push ⟨[.string (ByteArray.mk #[]), .int .i64 0], 1, false, false⟩).set H3.n ⟨[.string (sB p.1), .int .i64 (p.2 : Int)], 1, false, false⟩) := yds _ _ _
  generalize hII : ((.ops [⟨some 32, .bin .add (.tmp 15) (.const (.int .i64 1)), none⟩, ⟨some 15, .mov (.tmp 32), none⟩] [1, 3, 7, 13, 14, 15]) : XCode) = II
  unfold ydc
  rw [hII]
  generalize hT2 : ((.seq (.ops (⟨some 19, _, _⟩ :: _) _) _) : XCode) = T2
  simp only [zZ, zY, q_b, q_d, q_B, q_W, q_Z, v_ld, v_st, qb_i, ev, qb_v, xbin, ibin, if_true, if_false, Nat.reduceEqDiff, Nat.reduceLT, hlt, decide_true, a1, a2, st4]
  generalize (H3.push ⟨[.string (ByteArray.mk #[]), .int .i64 0], 1, false, false⟩).set H3.n ⟨[.string (sB p.1), .int .i64 (p.2 : Int)], 1, false, false⟩ = H4 at *
  have hmk := ydQ (.int .u8 0) 32 (by omega) .i64 H4 32 rfl
  have x5 := yab H4 ⟨rep 32 [.int .u8 0], 1, false, false⟩
  have ob5 : OwnB H4.n (H4.push ⟨rep 32 [.int .u8 0], 1, false, false⟩) (.slice (some ⟨H4.n, 0, none⟩) 32 32) zs32 := by
   have hp := Own.pushed H4 (rep 32 [.int .u8 0]) 1 32 false (by rw [yaB]; rfl)
   unfold OwnB
   rw [ykL] at hp ⊢
   exact hp
  have hgb : (H4.push ⟨rep 32 [.int .u8 0], 1, false, false⟩).get H4.n = some ⟨rep 32 [.int .u8 0], 1, false, false⟩ := by rw [AH.get_push, if_pos rfl]
  have hHn5 : (H4.push ⟨rep 32 [.int .u8 0], 1, false, false⟩).n = H4.n + 1 := rfl
  have hcells : (rep 32 [Value.int .u8 0]).length = 32 := by rw [yaB]; rfl
  have m5 := (c4.ext x5).ld 0 _ rfl
  generalize H4.push ⟨rep 32 [.int .u8 0], 1, false, false⟩ = H5 at *
  have hsl2 : srcLen (.string (sB p.1)) = some p.1.length := by show some (sB p.1).size = _; rw [ycD]
  have hmin : Nat.min p.1.length 32 = p.1.length := Nat.min_eq_left (by omega)
  have xcp := yeP (sz := 1) (l := 32) (c := 32) (o := 0) (y := .string (sB p.1)) hsl2 hgb rfl (by show 0 + 32 * 1 <= _; rw [hcells]; decide) (by rw [hmin]; exact yjX p.1 okp.n8 H5)
  obtain ⟨o6, s6, _, _⟩ := yen (vs := p.1.map (Value.int .u8)) ob5 0 (by rw [List.length_map]; show 0 + p.1.length <= 32; omega) (c := 32) (o := 0) rfl hgb
  subst hT2
  generalize hT2 : ((.seq (.ops (⟨some 24, _, _⟩ :: _) _) _) : XCode) = T2
  simp only [zZ, zY, v_ld, qb_h, qb_k, qb_l, ev, if_true, if_false, Nat.reduceEqDiff, Nat.reduceLT, hmk, fldAk, m5, xcp]
  have ob6 : OwnB H4.n (H5.set H4.n ⟨splice (rep 32 [.int .u8 0]) (0 + 0) (p.1.map (Value.int .u8)), 1, false, false⟩) (.slice (some ⟨H4.n, 0, none⟩) 32 32) (spI zs32 0 p.1) := by
   unfold OwnB
   have e : (spI zs32 0 p.1).length = 32 := ydK zs32 0 p.1 (by show 0 + p.1.length <= 32; omega)
   rw [e, <- yiz]
   exact o6
  have x46 : HExt H4 (H5.set H4.n ⟨splice (rep 32 [.int .u8 0]) (0 + 0) (p.1.map (Value.int .u8)), 1, false, false⟩) := x5.trans' (Nat.le_refl _) fun b hb => by rw [AH.get_set, if_neg (by omega)]
  rw [Nat.zero_add] at ob6 x46
  generalize H5.set H4.n ⟨splice (rep 32 [.int .u8 0]) 0 (p.1.map (Value.int .u8)), 1, false, false⟩ = H6 at *
  have n6 := (c4.ext x46).ld 1 _ rfl
  have cv := fun H => yc8 (p.2 : Int) (by omega) (by have := okp.nd; omega) H
  have e32 : (spI zs32 0 p.1).length = 32 := ydK zs32 0 p.1 (by show 0 + p.1.length <= 32; omega)
  have i6 := yam ob6.1 20 20 rfl (by rw [e32]; omega)
  subst hT2
  generalize hT2 : ((.ops (⟨some 29, _, _⟩ :: _) _) : XCode) = T2
  simp only [zZ, zY, q_Z, v_ld, v_st, qb_f, qb_h, ev, qb_v, if_true, if_false, Nat.reduceEqDiff, Nat.reduceLT, fldAk, n6, cv, i6]
  refine yju ob6 (by rw [e32]; omega) ?_
  intro H7 o7 s7
  rw [ymM okp] at o7
  have x47 : HExt H4 H7 := Keep.trans (n0 := H4.n) x46 (s7.keep ob6 x46.1)
  have x37 := x4.trans x47
  have ob7 : OwnB H2.n H7 bv (dirB (its.take k)) := Own.ext x37 ob
  have hdl : (dirB (its.take k)).length <= 32 * 12 := by
   rw [ydV _ fun q hq => hok q (List.mem_of_mem_take hq), List.length_take]; omega
  subst hT2
  simp only [zZ, zY, q_j, qb_a, ev, if_true, if_false, Nat.reduceEqDiff, Nat.reduceLT]
  refine appB ob7 (Nat.le_trans x3.1 x37.1) o7.1 (by omega) ?_
  intro bv8 H8 o8 s8
  subst hII
  simp only [zZ, zY, q_W, ev, xbin, ibin, if_true, if_false, Nat.reduceEqDiff, Nat.reduceLT, w3]
  refine hJ _ _ ⟨bv8, ?_, Keep.trans (n0 := H2.n) (x3.trans x37) (s8.keep ob7 (Nat.le_trans x3.1 x37.1)), rfl⟩
  rw [yal _ _ _ hp, ymP]
  exact o8
 ·rintro fr H3 ⟨bv, ob, x3, rfl⟩
  rw [List.take_length] at ob
  have b3 := b2.ext x3
  have l3 := b3.ldn 3 rfl
  have d3 := d2.ext x3
  have hdl := ydV its hok
  subst hTT
  simp only [zZ, zY, ydc, q_b, q_e, q_f, q_h, q_j, q_k, q_m, q_C, q_U, q_W, q_Z, v_ld, v_st, qb_a, qb_f, qb_h, qb_i, qb_k, qb_l, ev, qb_p, qb_q, qb_v, xbin, ibin, qb_A, qb_B, qb_C, resV, qb_D, if_true, if_false, Nat.reduceEqDiff, Nat.reduceLT, Int.lt_irrefl, decide_false, l3]
  refine ymC R hN hi hx T S v vs n0 bv (dirB its) H3 _ d3 (Nat.le_trans hn0 (Nat.le_trans f02.n x3.1)) ob.1 (fun b hb => Dk.prot d2 (Own.geB ob hb)) (ymQ its hok) (by rw [hdl]; unfold need; omega) (by rw [hdl]; exact hroom) ?_
  intro H4 vs' L' ps d4 hl4 R4 f4
  exact hq H4 vs' L' ps d4 hl4 R4 (f02.trans ((FrX.of (FrD.ext x3)).trans (FrX.of f4)))
variable {L : List (List Int)} {G : Nat -> Option Nd} {F : Nat -> Option Ent} {P : Nat -> List (Nat × Nat)}
def sumR (f : Nat -> Nat) : Nat -> Nat
 | 0 => 0
 | n + 1 => sumR f n + f n
theorem yfR {f g : Nat -> Nat} : ∀ {n : Nat}, (∀ j, j < n -> f j = g j) -> sumR f n = sumR g n
 | 0, _ => rfl
 | n + 1, h => by rw [sumR, sumR, yfR fun j hj => h j (by omega), h n (by omega)]
theorem ykz (f : Nat -> Nat) (i a : Nat) : ∀ n, i < n -> sumR (fun j => if j = i then a else f j) n + f i = sumR f n + a
 | 0, h => by omega
 | n + 1, h => by
  rw [sumR, sumR]
  by_cases e : i = n
  ·subst e
   have : sumR (fun j => if j = i then a else f j) i = sumR f i := yfR fun j hj => if_neg (by omega)
   rw [this, if_pos rfl]; omega
  ·have := ykz f i a n (by omega)
   rw [if_neg (fun h => e h.symm)]
   omega
theorem yjh (g : Nat -> List Int) : ∀ n, ((List.range n).flatMap g).length = sumR (fun j => (g j).length) n
 | 0 => rfl
 | n + 1 => by rw [List.range_succ, List.flatMap_append, List.length_append, yjh g n, List.flatMap_singleton, sumR]
def totN (G : Nat -> Option Nd) : Nat := sumR (fun j => (chO (G j)).length) 32
theorem yfp : ∀ {l m : List Int}, l.Nodup -> (∀ a ∈ l, a ∈ m) -> l.length <= m.length
 | [], m, _, _ => Nat.zero_le _
 | a :: l, m, hn, h => by
  obtain ⟨n1, n2⟩ := List.nodup_cons.1 hn
  have h1 := yfp (m := m.erase a) n2 fun b hb => (List.mem_erase_of_ne (fun e : b = a => n1 (e ▸ hb))).2 (h b (by simp [hb]))
  have h2 := List.length_erase_of_mem (h a (by simp))
  have h3 := List.length_pos_of_mem (h a (by simp))
  rw [List.length_cons]; omega
def allI (n : Nat) : List Int := (List.range n).map fun i : Nat => (i : Int)
theorem yia (n : Nat) : (allI n).Nodup := by
 unfold allI
 have h : (List.range n).Nodup := List.nodup_range
 rw [List.nodup_iff_pairwise_ne] at h ⊢
 rw [List.pairwise_map]
 exact h.imp fun h e => h (by omega)
theorem yev (n : Nat) (c : Int) : c ∈ allI n ↔ 0 <= c /\ c < (n : Int) := by
 unfold allI
 rw [List.mem_map]
 constructor
 ·rintro ⟨i, hi, rfl⟩
  have := List.mem_range.1 hi
  omega
 ·rintro ⟨h1, h2⟩
  exact ⟨c.toNat, List.mem_range.2 (by omega), by omega⟩
theorem yko {o : Option Nd} {c : Int} (h : c ∈ chO o) : ∃ x, o = some x /\ c ∈ chP x.ps := by
 cases o with
 | none => simp [chO] at h
 | some x => exact ⟨x, rfl, h⟩
theorem ylt (L : List (List Int)) (n c : Nat) (h1 : 6 <= c) (h2 : c < n) (h3 : usd L c = false) : (c : Int) ∈ freeS L n := by
 unfold freeS
 refine List.mem_map.2 ⟨c, List.mem_filter.2 ⟨?_, by rw [h3]; rfl⟩, rfl⟩
 rw [List.mem_iff_getElem?]
 exact ⟨c - 6, by rw [List.getElem?_drop, List.getElem?_range (by omega)]; congr 1; omega⟩
theorem yls (R : FRep L G) : (freeS L L.length).length + 6 + totN G = L.length := by
 have h6 := R.h6
 have h240 := R.h240
 have hu : ∀ c ∈ (List.range 32).flatMap (fun j => chO (G j)), ∃ j x, j < 32 /\ G j = some x /\ c ∈ chP x.ps := fun c hc => by
  obtain ⟨j, hj, hc⟩ := List.mem_flatMap.1 hc
  obtain ⟨x, h1, h2⟩ := yko hc
  exact ⟨j, x, List.mem_range.1 hj, h1, h2⟩
 have n1 : ((List.range 32).flatMap fun j => chO (G j)).Nodup := by
  rw [List.nodup_iff_pairwise_ne, List.pairwise_flatMap]
  refine ⟨fun j hj => ?_, ?_⟩
  ·cases hx : G j with
   | none => exact List.Pairwise.nil
   | some x => exact (R.nod j x (List.mem_range.1 hj) hx).1.nd
  ·have h : (List.range 32).Pairwise (fun a b => a < b) := List.pairwise_lt_range
   rw [List.pairwise_iff_getElem] at h ⊢
   intro a b ha hb hab x hx y hy e
   subst e
   have hlt := h a b ha hb hab
   obtain ⟨u, u1, u2⟩ := yko hx
   obtain ⟨w, w1, w2⟩ := yko hy
   have e1 : (List.range 32)[a] < 32 := List.mem_range.1 (List.getElem_mem ha)
   have e2 : (List.range 32)[b] < 32 := List.mem_range.1 (List.getElem_mem hb)
   exact R.dis _ _ u w x e1 e2 (by omega) u1 w1 u2 w2
 have nd : (allI 6 ++ ((List.range 32).flatMap fun j => chO (G j)) ++ freeS L L.length).Nodup := by
  refine List.nodup_append.2 ⟨List.nodup_append.2 ⟨yia 6, n1, fun a ha b hb e => ?_⟩, yeI L _, fun a ha b hb e => ?_⟩
  ·subst e
   obtain ⟨j, x, hj, hx, hc⟩ := hu a hb
   have h1 := R.rng hj hx a hc
   have := (yev 6 a).1 ha
   omega
  ·subst e
   have h1 := ygY L _ a hb
   rcases List.mem_append.1 ha with h | h
   ·have := (yev 6 a).1 h; omega
   ·obtain ⟨j, x, hj, hx, hc⟩ := hu a h
    have h2 := R.rng hj hx a hc
    have := R.us a.toNat (by omega)
    rw [h1.2.2] at this
    have h3 : ownB G 32 a.toNat = true := ownB_true.2 (.inr ⟨j, x, hj, hx, by rw [Int.toNat_of_nonneg (by omega)]; exact hc⟩)
    rw [h3] at this; cases this
 have l1 := yfp nd (m := allI L.length) fun a ha => by
  rw [yev]
  rcases List.mem_append.1 ha with ha | ha
  ·rcases List.mem_append.1 ha with h | h
   ·have := (yev 6 a).1 h; omega
   ·obtain ⟨j, x, hj, hx, hc⟩ := hu a h
    have h2 := R.rng hj hx a hc
    omega
  ·have h1 := ygY L _ a ha; omega
 have l2 := yfp (yia L.length) (m := allI 6 ++ ((List.range 32).flatMap fun j => chO (G j)) ++ freeS L L.length) fun a ha => by
  obtain ⟨h1, h2⟩ := (yev _ a).1 ha
  obtain ⟨c, rfl⟩ : ∃ c : Nat, a = (c : Int) := ⟨a.toNat, by omega⟩
  have hc := R.us c (by omega)
  cases hb : usd L c with
  | true =>
   rw [hb] at hc
   rcases ownB_true.1 hc.symm with h | ⟨j, x, hj, hx, hm⟩
   ·exact List.mem_append_left _ (List.mem_append_left _ ((yev 6 _).2 (by omega)))
   ·refine List.mem_append_left _ (List.mem_append_right _ (List.mem_flatMap.2 ⟨j, List.mem_range.2 hj, ?_⟩))
    rw [hx]; exact hm
  | false =>
   rw [hb] at hc
   have hc6 : ¬ c < 6 := fun h => by rw [ownB_true.2 (.inl h)] at hc; cases hc
   exact List.mem_append_right _ (ylt L _ c (by omega) (by omega) hb)
 have a1 : (allI L.length).length = L.length := by simp [allI]
 have a2 : (allI 6).length = 6 := by simp [allI]
 have a3 := yjh (fun j => chO (G j)) 32
 rw [List.length_append, List.length_append, a1, a2, a3] at l1 l2
 unfold totN
 omega
theorem yiv (G : Nat -> Option Nd) {i : Nat} (hi : i < 32) (o : Option Nd) : totN (updN G i o) + (chO (G i)).length = totN G + (chO o).length := by
 have := ykz (fun j => (chO (G j)).length) i (chO o).length 32 hi
 have e : totN (updN G i o) = sumR (fun j => if j = i then (chO o).length else (chO (G j)).length) 32 := by
  refine yfR fun j _ => ?_
  by_cases h : j = i
  ·rw [h, ycC, if_pos rfl]
  ·rw [yb9 _ _ h, if_neg h]
 rw [e]; exact this
theorem yjp (R : FRep L G) {i : Nat} {x : Nd} (hi : i < 32) (hx : G i = some x) {L1 : List (List Int)} (f : Fre L L1 i (chP x.ps)) : (freeS L1 L1.length).length + 6 + totN G = L.length + (chP x.ps).length := by
 have h1 := yls (yms R hi hx f)
 have h2 := yiv G hi (some ⟨x.kd, x.par, [], []⟩)
 rw [hx] at h2
 have e1 : (chO (some x)).length = (chP x.ps).length := rfl
 have e2 : (chO (some (⟨x.kd, x.par, [], []⟩ : Nd))).length = 0 := rfl
 have := f.len
 omega
def needE : Option Ent -> Nat
 | some e => need e.dt.length
 | none => 0
def totT (F : Nat -> Option Ent) : Nat := sumR (fun j => needE (F j)) 32
theorem ypA (R : FRep L (GT F P)) : totN (GT F P) = totT F := by
 refine yfR fun j hj => ?_
 cases h : F j with
 | none => rw [ygV h]; rfl
 | some e =>
  rw [ycl h]
  exact (R.nod j _ hj (ycl h)).1.cl
end Go.Proofs.YtnjjnnfpnjjccaaGreatDoor.D
set_option linter.unusedSimpArgs false
set_option linter.unusedVariables false
namespace Go.Proofs.YtnjjnnfpnjjccaaGreatDoor.D
open Go Go.Det
variable {L : List (List Int)} {F : Nat -> Option Ent} {P : Nat -> List (Nat × Nat)}
end Go.Proofs.YtnjjnnfpnjjccaaGreatDoor.D
set_option linter.unusedSimpArgs false
set_option linter.unusedVariables false
namespace Go.Proofs.YtnjjnnfpnjjccaaGreatDoor.D
open Go Go.Det
def updF (F : Nat -> Option Ent) (i : Nat) (o : Option Ent) (j : Nat) : Option Ent := if j = i then o else F j
theorem ycS (F : Nat -> Option Ent) (i : Nat) (o : Option Ent) : updF F i o i = o := if_pos rfl
theorem ybO (F : Nat -> Option Ent) {i j : Nat} (o : Option Ent) (h : j ≠ i) : updF F i o j = F j := if_neg h
def addF (F : Nat -> Option Ent) (at' p : Nat) (its : List (List Int × Nat)) (nm : List Int) (n : Nat) (e : Ent) : Nat -> Option Ent := updF (updF F n (some e)) at' (some (.dir p (its ++ [(nm, n)])))
theorem pushIt {n0 : Nat} {H : AH} {v : Value} {l : List (List Int × Nat)} (h : OL ITS n0 H v l) (hn : n0 <= H.n) (p : List Int × Nat) (hl : l.length <= 1000) {Q : Value -> AH -> Prop}
  (hq : ∀ v' H', OL ITS n0 H' v' (l ++ [p]) -> Stp v H v' H' -> Q v' H') :
  Got (xapp (H.push ⟨[.string (sB p.1), .int .i64 (p.2 : Int)], 2, false, false⟩) 2 24 v (.slice (some ⟨H.n, 0, none⟩) 1 1)) Q := by
 refine OL.push (S := ITS) [p] h hn rfl 24 (by decide) (by simp; omega) ?_
 intro v' H' o k same fresh hnn
 exact hq v' H' o ⟨hnn, same, fresh⟩
set_option maxHeartbeats 16000000 in
theorem yql {L : List (List Int)} {F : Nat -> Option Ent} {P : Nat -> List (Nat × Nat)} (R : FRep L (GT F P)) (K : TOk F) (hN : L.length <= 43) (at' p n : Nat) (its : List (List Int × Nat)) (nm : List Int) (kd : Nat) (data : List Int) (ha : at' < 32) (hF : F at' = some (.dir p its)) (hn : n < 32) (hFn : F n = none) (hfst : ∀ j, j < n -> F j ≠ none)
  (hs : Srt (its ++ [(nm, n)])) (hok : ItOk (nm, n)) (hl : its.length + 1 <= 12) (hkd : kd = 1 \/ kd = 2) (hd8 : B8 data) (hn4 : need data.length <= 4)
  (hr1 : totT F + need (32 * (its.length + 1)) + need data.length + 6 <= L.length + need (32 * its.length))
  (T S : Int) (v : Value) (vs : List Value) (n0 : Nat) (dv : Value) (H : AH) (Q : Value -> AH -> Prop) (d : Dk n0 L.length H v vs L) (hn0 : n0 <= H.n) (hd : Byts H dv data) (hdp : ∀ b, inB dv b -> Prot v vs b)
  (hq : ∀ H' vs' L' ps2 ps3, Dk n0 L'.length H' v vs' L' -> L'.length = L.length -> FRep L' (updN (updN (updN (GT F P) n (some ⟨kd, at', [], []⟩)) at' (some ⟨2, p, ps2, dirB (its ++ [(nm, n)])⟩)) n (some ⟨kd, at', ps3, data⟩)) -> FrD v vs vs' H H' -> Q (.int .i64 0) H') :
  Got (xc Tryz.prog tab 36 [.agg #[.int .i64 T, .int .i64 S, v], .int .i64 (at' : Int), .string (sB nm), .int .i64 (kd : Int), dv] H) Q := by
 have hne : at' ≠ n := fun e => by rw [e, hFn] at hF; cases hF
 obtain ⟨kS, kL, kN, kA⟩ := K.its at' p its hF
 refine yac (res := [.tmp 10]) rfl ?_
 have vA : vcells (.agg #[.int .i64 T, .int .i64 S, v]) = [.int .i64 T, .int .i64 S, v] := rfl
 have b := Bx.new H [.int .i64 T, .int .i64 S, v]
 have xx := yab H ⟨[.int .i64 T, .int .i64 S, v], 1, false, false⟩
 have hHn : (H.push ⟨[.int .i64 T, .int .i64 S, v], 1, false, false⟩).n = H.n + 1 := rfl
 have pE : Prot v vs H.n := Dk.prot d (Nat.le_refl _)
 generalize hTT : ((.seq (.block 0 (.loop yc0)) _) : XCode) = TT
 simp only [zZ, zY, ofArgs, qb_j, ev, if_true, if_false, reduceCtorEq, Nat.reduceEqDiff, Nat.reduceLT, Nat.zero_add, Nat.reduceAdd, vA]
 generalize H.push ⟨[.int .i64 T, .int .i64 S, v], 1, false, false⟩ = H1 at *
 subst hTT
 generalize hTT : ((.seq (.seq (.ops (⟨some 28, _, _⟩ :: _) _) _) _) : XCode) = TT
 simp only [q_a, q_b]
 have d1 := d.ext xx
 refine yaz (fun k fr H' => HExt H1 H' /\ fr = [(1, .int .i64 (at' : Int)), (2, .string (sB nm)), (3, .int .i64 (kd : Int)), (4, dv), (5, .pointer (some ⟨H.n, 0, none⟩)), (11, .int .i64 (k : Int))]) n ⟨HExt.refl H1, rfl⟩ ?_ ?_
 ·rintro k hk fr H2 ⟨x2, rfl⟩ J hJ
  have hlt : (k : Int) < 32 := by omega
  have w3 := wrS k (by omega)
  have b2 := b.ext x2
  have l2 := b2.ldn 3 rfl
  obtain ⟨e, he⟩ : ∃ e, F k = some e := by
   cases h : F k with
   | none => exact absurd h (hfst k hk)
   | some e => exact ⟨e, rfl⟩
  simp only [zZ, zY, yc0, q_b, q_j, q_r, q_U, q_W, q_Z, v_ld, qb_o, ev, qb_p, qb_q, xbin, ibin, if_true, if_false, Nat.reduceEqDiff, Nat.reduceLT, hlt, decide_true, l2]
  refine ybS R (by omega) T S v H2 H2 (HExt.refl H2) _ (Secs.ext x2 d1.secs) ?_
  intro H3 s3 x3 y3
  obtain ⟨i3, e3⟩ := nbyte R (by omega : k < 32) (Sl.ext x3 y3) 0 (by omega)
  rw [tb0 R (by omega) he] at e3
  have i3' : pIdx 1 s3 (.int .i64 0) H3 = some (ptrAt s3 0, H3) := i3
  have ck : ((e.kd : Int) != 0) = true := by simp; rcases e.kd_le with h | h <;> omega
  simp only [zZ, zY, q_d, q_B, ev, if_true, if_false, Nat.reduceEqDiff, Nat.reduceLT, i3', e3, ck, w3]
  exact hJ _ _ ⟨x2.trans x3, rfl⟩
 ·rintro fr H2 ⟨x2, rfl⟩
  have hlt : (n : Int) < 32 := by omega
  have b2 := b.ext x2
  have l2 := b2.ldn 3 rfl
  simp only [zZ, zY, yc0, q_b, q_j, q_r, q_U, q_W, q_Z, v_ld, qb_o, ev, qb_p, qb_q, xbin, ibin, if_true, if_false, Nat.reduceEqDiff, Nat.reduceLT, hlt, decide_true, l2]
  refine ybS R hn T S v H2 H2 (HExt.refl H2) _ (Secs.ext x2 d1.secs) ?_
  intro H3 s3 x3 y3
  obtain ⟨i3, e3⟩ := nbyte R hn (Sl.ext x3 y3) 0 (by omega)
  rw [tb0n R hn hFn] at e3
  have i3' : pIdx 1 s3 (.int .i64 0) H3 = some (ptrAt s3 0, H3) := i3
  have b3 := b2.ext x3
  have l3 := b3.ldn 3 rfl
  have c32 : ((n : Int) == 32) = false := by rw [beq_eq_false_iff_ne]; omega
  have d3 := (d1.ext x2).ext x3
  subst hTT
  generalize hTT : ((.seq (.ops (⟨some 33, _, _⟩ :: _) _) _) : XCode) = TT
  simp only [zZ, zY, q_d, q_e, q_h, q_k, q_C, q_U, q_W, v_ld, ev, qb_p, qb_q, xbin, ibin, if_true, if_false, Nat.reduceEqDiff, Nat.reduceLT, i3', e3, bne_self_eq_false, c32, l3]
  refine yiC T S d3 R.h8 (R.bnd hn) (by omega) _ ?_
  intro H4 s x4 sv
  have b4 := b3.ext x4
  have d4 := d3.ext x4
  have by4 := sv.byts d4 R.h8 (R.bnd hn)
  have hn16 := ycE L n R.h8 (R.bnd hn)
  have cv1 := fun H => yc8 (kd : Int) (by omega) (by omega) H
  have cv2 := fun H => yc8 (at' : Int) (by omega) (by omega) H
  have ia := yam by4 0 0 rfl (by omega)
  subst hTT
  generalize hTT : ((.seq (.ops (⟨some 42, _, _⟩ :: _) _) _) : XCode) = TT
  simp only [zZ, zY, q_Z, v_st, qb_f, ev, qb_v, if_true, if_false, Nat.reduceEqDiff, Nat.reduceLT, cv1, cv2, ia]
  refine sv.set d4 R.h8 (R.bnd hn) 0 (by omega) _ ?_
  intro H5 d5 f5
  have k8 : ∀ l ∈ ndS L n 0 [(kd : Int)], SecOk l := yjx R.h8 n 0 (R.bnd hn) _ (by simp) (fun b hb => by rw [List.mem_singleton.1 hb]; omega)
  have hb2 : 2 + n / 8 < (ndS L n 0 [(kd : Int)]).length := by rw [ya8]; exact R.bnd hn
  have d5' : Dk n0 (ndS L n 0 [(kd : Int)]).length H5 v vs (ndS L n 0 [(kd : Int)]) := by rw [ya8]; exact d5
  have by5 := sv.byts d5' k8 hb2
  have hn17 := ycE _ n k8 hb2
  have ib := yam by5 1 1 rfl (by omega)
  simp only [q_q, ib]
  refine sv.set d5' k8 hb2 1 (by omega) _ ?_
  intro H6 d6 f6
  have R6 := ynF R hn (ygV (P := P) hFn) kd at' hkd ha
  have L6 : (ndS (ndS L n 0 [(kd : Int)]) n 1 [(at' : Int)]).length = L.length := by rw [ya8, ya8]
  have d6' : Dk n0 (ndS (ndS L n 0 [(kd : Int)]) n 1 [(at' : Int)]).length H6 v vs (ndS (ndS L n 0 [(kd : Int)]) n 1 [(at' : Int)]) := by rw [ya8]; exact d6
  have F16 : FrD v vs vs H H6 := (FrD.ext (xx.trans (x2.trans (x3.trans x4)))).trans ((FrD.frm f5).trans (FrD.frm f6))
  generalize ndS (ndS L n 0 [(kd : Int)]) n 1 [(at' : Int)] = LL6 at *
  have b6 := ((FrD.frm (v := v) f5).trans (FrD.frm f6)).bx b4 pE
  have l6 := b6.ldn 3 rfl
  have hG6 : updN (GT F P) n (some ⟨kd, at', [], []⟩) at' = some ⟨2, p, P at', dirB its⟩ := by rw [yb9 _ _ hne, ycl hF]; rfl
  have hvv : veq (.agg #[.int .i64 T, .int .i64 S, v]) (.agg #[.int .i64 T, .int .i64 S, v]) = true := veqD T S v (Sl.veq1 d6.own.1)
  subst hTT
  generalize hTT : ((.seq (.seq (.dops (.mk ⟨some 48, _, _⟩ _ _ _ :: _) _) _) _) : XCode) = TT
  simp only [zZ, zY, q_U, q_Y, v_ld, ev, qb_p, qb_q, if_true, if_false, Nat.reduceEqDiff, Nat.reduceLT, l6]
  refine ycZ R6 ha hG6 T S v H6 _ d6'.secs ?_
  intro wc H7 oc x7
  refine yk1 its wc H7 _ oc.1 (fun q hq => (kA q hq).1) kS (by omega) ?_
  intro wi H8 oi x8
  have x68 := x7.trans x8
  have b8 := b6.ext x68
  have l8 := b8.ldn 3 rfl
  have d8 := d6'.ext x68
  have xp := yab H8 ⟨[.string (sB nm), .int .i64 (n : Int)], 2, false, false⟩
  have lp := (b8.ext xp).ldn 3 rfl
  have hall : ([.string (sB nm), .int .i64 (n : Int)] : List Value).all one = true := rfl
  subst hTT
  generalize hTT : ((.seq (.ops (⟨some 60, _, _⟩ :: _) _) _) : XCode) = TT
  simp only [q_a, q_c, q_g, q_o, q_p, q_q, q_P, q_Q, q_V, q_W, ev, qb_u, zB, xbin, ibin]
  refine ybQ _ _ _ _ _ ?_
  simp only [zZ, zY, q_U, v_ld, qb_a, ev, qb_p, qb_q, if_true, if_false, reduceCtorEq, Nat.reduceEqDiff, Nat.reduceLT, Nat.zero_add, Nat.reduceAdd, and_true, qb_E, qb_F, hs0, hs1, hs2, hs3, qb_G, qb_H, qb_I, qb_J, qb_K, qb_L, qb_M, l8, vb, vbs, qb_X, qb_Y, qb_Z, ybp, ygy, yaR, ygz, eq_self, List.length_cons, List.length_nil, List.set_cons_zero, List.set_cons_succ, List.map_cons, List.map_nil, Nat.zero_mul, rep_1]
  rw [ycY (n := 2) hall rfl rfl]
  simp only [q_q, zC]
  refine pushIt oi x8.1 (nm, n) (by omega) ?_
  intro wi9 H9 o9 s9
  have hwige : ∀ b, inB wi b -> H7.n <= b := fun b hb => Own.geB oi hb
  have hwi9ge : ∀ b, inB wi9 b -> H7.n <= b := fun b hb => Own.geB o9 hb
  have x69 : HExt H6 H9 := ⟨Nat.le_trans x68.1 s9.n, fun b hb => (s9.get b (Nat.lt_of_lt_of_le hb x68.1) fun h => by have := hwige b h; have := x7.1; omega).trans (x68.2 b hb)⟩
  have b9 := b6.ext x69
  have l9 := b9.ldn 3 rfl
  have d9 := d6'.ext x69
  have hwp : ∀ b, inB wi9 b -> Prot v vs b := fun b hb => Dk.prot d6' (Nat.le_trans x7.1 (hwi9ge b hb))
  have rm6 : ∀ L1, Fre LL6 L1 at' (chP (P at')) -> (freeS L1 L1.length).length + 6 + totN (updN (GT F P) n (some ⟨kd, at', [], []⟩)) = LL6.length + (chP (P at')).length := fun L1 f => yjp (x := ⟨2, p, P at', dirB its⟩) R6 ha hG6 f
  have t6 := yiv (GT F P) hn (some ⟨kd, at', [], []⟩)
  rw [ypA R, ygV (P := P) hFn] at t6
  have e00 : (chO (none : Option Nd)).length = 0 := rfl
  have e01 : (chO (some (⟨kd, at', [], []⟩ : Nd))).length = 0 := rfl
  have hPat : (chP (P at')).length = need (32 * its.length) := by
   have := (R.nod at' _ ha (ycl hF)).1.cl
   have hdl : (Ent.dir p its).dt.length = 32 * its.length := ydV its fun q hq => (kA q hq).1
   rw [<- hdl]; exact this
  have hokA : ∀ q ∈ its ++ [(nm, n)], ItOk q := fun q hq => by
   rcases List.mem_append.1 hq with h | h
   ·exact (kA q h).1
   ·rw [List.mem_singleton.1 h]; exact hok
  have hll : (its ++ [(nm, n)]).length = its.length + 1 := by simp
  refine ym6 R6 (by omega) ha hG6 T S v vs n0 wi9 (its ++ [(nm, n)]) H7.n H9 _ d9 (Nat.le_trans hn0 (Nat.le_trans F16.n x69.1)) o9 (Nat.le_trans x8.1 s9.n) hwp hs hokA (by rw [hll]; exact hl) (fun L1 f => by have := rm6 L1 f; rw [hll]; omega) ?_
  intro HA vsA LA psA dA hlA RA fA
  have F9A : FrX (inB wi9) v vs vsA H HA := (FrX.of (F16.trans (FrD.ext x69))).trans fA
  have F1A : FrD v vs vsA H HA := ⟨F9A.n, fun b hb h1 h2 => F9A.get b hb (fun h => by have := hwi9ge b h; have := x7.1; have := F16.n; omega) ⟨h1, h2⟩, F9A.new, F9A.low⟩
  have hlt6 : H.n < H6.n := b6.2
  have bA := fA.bx b9 (fun h => by have := hwi9ge _ h; have := x7.1; omega) pE
  have lA := bA.ldn 3 rfl
  have hGA : updN (updN (GT F P) n (some ⟨kd, at', [], []⟩)) at' (some ⟨2, p, psA, dirB (its ++ [(nm, n)])⟩) n = some ⟨kd, at', [], []⟩ := by rw [yb9 _ _ (fun e => hne e.symm), ycC]
  have rmA : ∀ L1, Fre LA L1 n (chP ([] : List (Nat × Nat))) -> (freeS L1 L1.length).length + 6 + totN (updN (updN (GT F P) n (some ⟨kd, at', [], []⟩)) at' (some ⟨2, p, psA, dirB (its ++ [(nm, n)])⟩)) = LA.length + (chP ([] : List (Nat × Nat))).length := fun L1 f => yjp (x := ⟨kd, at', [], []⟩) RA hn hGA f
  have tA := yiv (updN (GT F P) n (some ⟨kd, at', [], []⟩)) ha (some ⟨2, p, psA, dirB (its ++ [(nm, n)])⟩)
  rw [hG6] at tA
  have e02 : (chO (some (⟨2, p, psA, dirB (its ++ [(nm, n)])⟩ : Nd))).length = need (32 * (its.length + 1)) := by
   have hx : updN (updN (GT F P) n (some ⟨kd, at', [], []⟩)) at' (some ⟨2, p, psA, dirB (its ++ [(nm, n)])⟩) at' = some ⟨2, p, psA, dirB (its ++ [(nm, n)])⟩ := ycC _ _ _
   have := (RA.nod at' _ ha hx).1.cl
   have hdl := ydV _ hokA
   rw [hll] at hdl
   rw [<- hdl]; exact this
  have e03 : (chO (some (⟨2, p, P at', dirB its⟩ : Nd))).length = need (32 * its.length) := hPat
  have e04 : (chP ([] : List (Nat × Nat))).length = 0 := rfl
  have hdA : Byts HA dv data := F1A.sl hd hdp
  have hdpA : ∀ b, inB dv b -> Prot v vsA b := fun b hb => F1A.prot (hd.lt hb) (hdp b hb)
  subst hTT
  simp only [zZ, zY, q_d, q_f, q_m, q_C, q_U, v_ld, ev, qb_p, qb_q, qb_A, qb_B, qb_C, resV, qb_D, if_true, if_false, Nat.reduceEqDiff, Nat.reduceLT, and_true, true_and, lp, l9, hvv, bne_self_eq_false, lA]
  refine ymC RA (by omega) hn hGA T S v vsA n0 dv data HA _ dA (Nat.le_trans hn0 F1A.n) hdA hdpA hd8 hn4 (fun L1 f => by have := rmA L1 f; omega) ?_
  intro HB vsB LB psB dB hlB RB fB
  exact hq HB vsB LB psA psB dB (by omega) RB (F1A.trans fB)
variable {F : Nat -> Option Ent} {P : Nat -> List (Nat × Nat)}
theorem ymz {d : Nat -> Nat} (hd : ∀ i p its, F i = some (.dir p its) -> ∀ q ∈ its, d q.2 = d i + 1 /\ d q.2 <= 8) : ∀ (ns : List (List Int)) (i j : Nat), fndP F i ns = some j -> d j = d i + ns.length
 | [], i, j, h => by cases h; rfl
 | s :: r, i, j, h => by
  have h' : (match kid F i s with | some j => fndP F j r | none => none) = some j := h
  cases hk : kid F i s with
  | none => rw [hk] at h'; cases h'
  | some k =>
   rw [hk] at h'
   have ih := ymz hd r k j h'
   unfold kid at hk
   cases hF : F i with
   | none => rw [hF] at hk; cases hk
   | some e =>
    cases e with
    | fil p dt => rw [hF] at hk; cases hk
    | dir p its =>
     rw [hF] at hk
     have hk' : (its.find? fun q => q.1 == s).map (·.2) = some k := hk
     obtain ⟨q, hq, rfl⟩ := Option.map_eq_some_iff.1 hk'
     have := (hd i p its hF q (List.mem_of_find?_eq_some hq)).1
     rw [List.length_cons]; omega
theorem add_G {at' n p kd : Nat} (hne : at' ≠ n) (its : List (List Int × Nat)) (nm data : List Int) (ps2 ps3 : List (Nat × Nat)) (e : Ent) (h1 : e.kd = kd) (h2 : e.par = at') (h3 : e.dt = data) :
  updN (updN (updN (GT F P) n (some ⟨kd, at', [], []⟩)) at' (some ⟨2, p, ps2, dirB (its ++ [(nm, n)])⟩)) n (some ⟨kd, at', ps3, data⟩) = GT (addF F at' p its nm n e) fun j => if j = n then ps3 else if j = at' then ps2 else P j := by
 funext j
 unfold addF
 by_cases e1 : j = n
 ·subst e1
  have hF : updF (updF F j (some e)) at' (some (.dir p (its ++ [(nm, j)]))) j = some e := by rw [ybO _ _ (fun h => hne h.symm), ycS]
  rw [ycC, ycl hF, h1, h2, h3, if_pos rfl]
 ·rw [yb9 _ _ e1]
  by_cases e2 : j = at'
  ·subst e2
   rw [ycC, ycl (ycS _ _ _), if_neg e1, if_pos rfl]; rfl
  ·rw [yb9 _ _ e2, yb9 _ _ e1]
   unfold GT
   rw [ybO _ _ e2, ybO _ _ e1]
   simp only [if_neg e1, if_neg e2]
theorem TOk.add (K : TOk F) {at' p n : Nat} {its : List (List Int × Nat)} {nm : List Int} {e : Ent} (hF : F at' = some (.dir p its)) (hn : n < 32) (hFn : F n = none) (hs : Srt (its ++ [(nm, n)])) (hok : ItOk (nm, n)) (hl : its.length + 1 <= 31) (hp : e.par = at') (he : ∀ q l, e = .dir q l -> l = [])
  {ds : List (List Int)} (hf : fndP F 0 ds = some at') (hdl : ds.length <= 7) : TOk (addF F at' p its nm n e) := by
 obtain ⟨d, d0, hd⟩ := K.dep
 obtain ⟨its0, hr⟩ := K.root
 obtain ⟨kS, kL, kN, kA⟩ := K.its at' p its hF
 have hda : d at' + 1 <= 8 := by have := ymz hd ds 0 at' hf; omega
 have hne : at' ≠ n := fun e => by rw [e, hFn] at hF; cases hF
 have hn0 : n ≠ 0 := fun e => by rw [e, hr] at hFn; cases hFn
 have fa : addF F at' p its nm n e at' = some (.dir p (its ++ [(nm, n)])) := ycS _ _ _
 have fn : addF F at' p its nm n e n = some e := by unfold addF; rw [ybO _ _ (fun h => hne h.symm), ycS]
 have fo : ∀ j, j ≠ at' -> j ≠ n -> addF F at' p its nm n e j = F j := fun j h1 h2 => by unfold addF; rw [ybO _ _ h1, ybO _ _ h2]
 have qn : ∀ i p its q, F i = some (.dir p its) -> q ∈ its -> q.2 ≠ n := fun i p its q h1 h2 h3 => by
  obtain ⟨_, _, _, hA⟩ := K.its i p its h1
  obtain ⟨_, _, _, x, hx, _⟩ := hA q h2
  rw [h3, hFn] at hx; cases hx
 have qs : ∀ q ∈ its, q.2 ≠ at' := fun q hq h => by have := (hd at' p its hF q hq).1; rw [h] at this; omega
 have hd' : ∀ i p' its', addF F at' p its nm n e i = some (.dir p' its') -> i ≠ at' -> F i = some (.dir p' its') \/ its' = [] := fun i p' its' h hi => by
  by_cases h2 : i = n
  ·subst h2
   rw [fn] at h
   exact .inr (he _ _ (Option.some.inj h))
  ·rw [fo i hi h2] at h; exact .inl h
 refine ⟨?_, fun i p' its' h => ?_, fun j e' hj h => ?_, fun i e' h => ?_, fun j => if j = n then d at' + 1 else d j, ?_, fun i p' its' h q hq => ?_⟩
 ·by_cases h0 : 0 = at'
  ·subst h0
   rw [hr] at hF
   cases hF
   exact ⟨_, fa⟩
  ·exact ⟨its0, by rw [fo 0 h0 (fun h => hn0 h.symm), hr]⟩
 ·by_cases hi : i = at'
  ·subst hi
   rw [fa] at h
   cases h
   refine ⟨hs, by simp; omega, ?_, fun q hq => ?_⟩
   ·rw [List.map_append, List.map_cons, List.map_nil]
    refine List.nodup_append.2 ⟨kN, by simp, fun a ha b hb e => ?_⟩
    rw [List.mem_singleton.1 hb] at e
    obtain ⟨q, hq, rfl⟩ := List.mem_map.1 ha
    exact qn _ _ _ q hF hq e
   ·rcases List.mem_append.1 hq with h1 | h1
    ·obtain ⟨a1, a2, a3, x, a4, a5⟩ := kA q h1
     exact ⟨a1, a2, a3, x, by rw [fo _ (qs q h1) (qn _ _ _ q hF h1)]; exact a4, a5⟩
    ·rw [List.mem_singleton.1 h1]
     exact ⟨hok, hn, hn0, e, fn, hp⟩
  ·rcases hd' i p' its' h hi with h2 | rfl
   ·obtain ⟨a1, a2, a3, a4⟩ := K.its i p' its' h2
    refine ⟨a1, a2, a3, fun q hq => ?_⟩
    obtain ⟨b1, b2, b3, x, b4, b5⟩ := a4 q hq
    refine ⟨b1, b2, b3, ?_⟩
    by_cases h3 : q.2 = at'
    ·rw [h3, hF] at b4
     cases b4
     exact ⟨.dir p (its ++ [(nm, n)]), by rw [h3]; exact fa, b5⟩
    ·exact ⟨x, by rw [fo _ h3 (qn _ _ _ q h2 hq)]; exact b4, b5⟩
   ·refine ⟨fun k p q h => by simp at h, by simp, by simp, fun q hq => by simp at hq⟩
 ·by_cases h1 : j = n
  ·subst h1
   rw [fn] at h
   cases h
   exact ⟨nm, p, _, by rw [hp]; exact fa, by simp⟩
  ·have key : ∀ e', F j = some e' -> ∃ nm' p' its', addF F at' p its nm n e e'.par = some (.dir p' its') /\ (nm', j) ∈ its' := fun e' h => by
    obtain ⟨nm', p', its', g1, g2⟩ := K.up j e' hj h
    have hkn : e'.par ≠ n := fun h => by rw [h, hFn] at g1; cases g1
    by_cases hk : e'.par = at'
    ·rw [hk, hF] at g1
     cases g1
     exact ⟨nm', p, _, by rw [hk]; exact fa, by simp [g2]⟩
    ·exact ⟨nm', p', its', by rw [fo _ hk hkn]; exact g1, g2⟩
   by_cases h2 : j = at'
   ·subst h2
    rw [fa] at h
    cases h
    have := key _ hF
    exact this
   ·rw [fo j h2 h1] at h
    exact key _ h
 ·by_cases h1 : i = n
  ·rw [h1]; exact hn
  ·by_cases h2 : i = at'
   ·rw [h2]; exact K.bd _ _ hF
   ·rw [fo i h2 h1] at h
    exact K.bd _ _ h
 ·show (if 0 = n then d at' + 1 else d 0) = 0
  rw [if_neg (fun h => hn0 h.symm), d0]
 ·by_cases hi : i = at'
  ·subst hi
   rw [fa] at h
   cases h
   show (if q.2 = n then d i + 1 else d q.2) = (if i = n then d i + 1 else d i) + 1 /\ (if q.2 = n then d i + 1 else d q.2) <= 8
   rw [if_neg hne]
   rcases List.mem_append.1 hq with h1 | h1
   ·rw [if_neg (qn _ _ _ q hF h1)]
    exact hd _ _ _ hF q h1
   ·rw [List.mem_singleton.1 h1, if_pos rfl]
    exact ⟨rfl, hda⟩
  ·rcases hd' i p' its' h hi with h2 | rfl
   ·have hin : i ≠ n := fun h => by rw [h, hFn] at h2; cases h2
    show (if q.2 = n then d at' + 1 else d q.2) = (if i = n then d at' + 1 else d i) + 1 /\ (if q.2 = n then d at' + 1 else d q.2) <= 8
    rw [if_neg hin, if_neg (qn _ _ _ q h2 hq)]
    exact hd _ _ _ h2 q hq
   ·simp at hq
theorem TOk.set (K : TOk F) {i p : Nat} {dt : List Int} (hF : F i = some (.fil p dt)) (data : List Int) : TOk (updF F i (some (.fil p data))) := by
 have key : ∀ j p' its', updF F i (some (.fil p data)) j = some (.dir p' its') -> j ≠ i /\ F j = some (.dir p' its') := fun j p' its' h => by
  by_cases e : j = i
  ·subst e; rw [ycS] at h; cases h
  ·rw [ybO _ _ e] at h; exact ⟨e, h⟩
 have key2 : ∀ j p' its', F j = some (.dir p' its') -> updF F i (some (.fil p data)) j = some (.dir p' its') := fun j p' its' h => by
  rw [ybO _ _ (fun e => by rw [e, hF] at h; cases h)]; exact h
 refine ⟨?_, fun j p' its' h => ?_, fun j e hj h => ?_, fun j e h => ?_, ?_⟩
 ·obtain ⟨its, h⟩ := K.root
  exact ⟨its, key2 _ _ _ h⟩
 ·obtain ⟨a1, a2, a3, a4⟩ := K.its j p' its' (key j p' its' h).2
  refine ⟨a1, a2, a3, fun q hq => ?_⟩
  obtain ⟨b1, b2, b3, x, b4, b5⟩ := a4 q hq
  refine ⟨b1, b2, b3, ?_⟩
  by_cases e : q.2 = i
  ·rw [e, hF] at b4
   cases b4
   exact ⟨.fil p data, by rw [e, ycS], b5⟩
  ·exact ⟨x, by rw [ybO _ _ e]; exact b4, b5⟩
 ·by_cases e1 : j = i
  ·subst e1
   rw [ycS] at h
   cases h
   obtain ⟨nm, p', its, g1, g2⟩ := K.up j _ hj hF
   exact ⟨nm, p', its, key2 _ _ _ g1, g2⟩
  ·rw [ybO _ _ e1] at h
   obtain ⟨nm, p', its, g1, g2⟩ := K.up j e hj h
   exact ⟨nm, p', its, key2 _ _ _ g1, g2⟩
 ·by_cases e1 : j = i
  ·subst e1; exact K.bd _ _ hF
  ·rw [ybO _ _ e1] at h; exact K.bd _ _ h
 ·obtain ⟨d, d0, hd⟩ := K.dep
  exact ⟨d, d0, fun j p' its' h q hq => hd j p' its' (key j p' its' h).2 q hq⟩
end Go.Proofs.YtnjjnnfpnjjccaaGreatDoor.D
set_option linter.unusedSimpArgs false
set_option linter.unusedVariables false
namespace Go.Proofs.YtnjjnnfpnjjccaaGreatDoor.D
open Go Go.Det
theorem Dk.less {n0 n1 : Nat} {H : AH} {v : Value} {vs : List Value} {L : List (List Int)} (d : Dk n0 L.length H v vs L) (h : n1 <= n0) : Dk n1 L.length H v vs L :=
 ⟨d.len, Own.le d.own h, fun i x l h1 h2 h3 => Own.le (d.el i x l h1 h2 h3) h, fun i x l h1 h2 h3 => by have := (List.getElem?_eq_some_iff.1 h3).1; omega, d.dis, d.sep⟩
theorem FrD.hext {n0 : Nat} {v : Value} {vs vs' : List Value} {L : List (List Int)} {H0 A B : AH} (d : Dk n0 L.length A v vs L) (f : FrD v vs vs' A B) (x : HExt H0 A) (h : H0.n <= n0) : HExt H0 B :=
 ⟨Nat.le_trans x.1 f.n, fun b hb => (f.keep (Nat.lt_of_lt_of_le hb x.1) (Dk.protL d (by omega))).trans (x.2 b hb)⟩
structure TDk (n0 : Nat) (T S : Int) (N : Nat) (H : AH) (v : Value) (F : Nat -> Option Ent) : Prop where
 ex : ∃ L vs, Dk n0 L.length H v vs L /\ TRep L F /\ Geo L T S /\ L.length = N
 n43 : N <= 43
theorem yp8 {L L' : List (List Int)} {T S : Int} (g : Geo L T S) (h : L'.length = L.length) : Geo L' T S := ⟨g.t1, g.t2, g.s1, g.s2, by rw [h]; exact g.ll⟩
set_option maxHeartbeats 16000000 in
theorem ynb {n1 : Nat} {T S : Int} {N : Nat} {H : AH} {v : Value} {F : Nat -> Option Ent} (t : TDk n1 T S N H v F) (ds : List (List Int)) (nm : List Int) (hds : OkNs ds) (hnm : okName nm = true) (hn8 : B8 nm) (hdl7 : ds.length <= 7) (at' p n : Nat) (its : List (List Int × Nat)) (hf : fndP F 0 ds = some at') (hF : F at' = some (.dir p its)) (hnone : fndP F 0 (ds ++ [nm]) = none)
  (hn : n < 32) (hFn : F n = none) (hfst : ∀ j, j < n -> F j ≠ none) (hs : Srt (its ++ [(nm, n)])) (hl : its.length + 1 <= 12) (data : List Int) (dv : Value) (hd : Byts H dv data) (hd8 : B8 data) (hn4 : need data.length <= 4)
  (hr1 : totT F + need (32 * (its.length + 1)) + need data.length + 6 <= N + need (32 * its.length)) (Q : Value -> AH -> Prop) (hg : GM H)
  (hq : ∀ H' w, TDk H.n T S N H' w (addF F at' p its nm n (.fil at' data)) -> HExt H H' -> Q (.tuple [.agg #[.int .i64 T, .int .i64 S, w], .int .i64 0].toArray) H') :
  Got (xc Tryz.prog tab 23 [.agg #[.int .i64 T, .int .i64 S, v], .string (sB (joinP (ds ++ [nm]))), dv] H) Q := by
 obtain ⟨⟨L, vs0, dk, R, g, hLN⟩, h43⟩ := t
 have hns : OkNs (ds ++ [nm]) := fun s hs => by
  rcases List.mem_append.1 hs with h | h
  ·exact hds s h
  ·rw [List.mem_singleton.1 h]; exact ⟨hnm, hn8⟩
 obtain ⟨P, R'⟩ := R.ex
 have K := R.ok
 have ha : at' < 32 := K.bd _ _ hF
 have h6 := R'.h6
 refine yac (res := [.cell 6 (some 3), .tmp 7]) rfl ?_
 have vA : vcells (.agg #[.int .i64 T, .int .i64 S, v]) = [.int .i64 T, .int .i64 S, v] := rfl
 have b1 := Bx.new H [.int .i64 T, .int .i64 S, v]
 have x1 := yab H ⟨[.int .i64 T, .int .i64 S, v], 1, false, false⟩
 have n1' : (H.push ⟨[.int .i64 T, .int .i64 S, v], 1, false, false⟩).n = H.n + 1 := rfl
 have r1 := Bx.new (H.push ⟨[.int .i64 T, .int .i64 S, v], 1, false, false⟩) [.int .i64 0, .int .i64 0, .slice none 0 0]
 have x2 := yab (H.push ⟨[.int .i64 T, .int .i64 S, v], 1, false, false⟩) ⟨[.int .i64 0, .int .i64 0, .slice none 0 0], 1, false, false⟩
 have n2 : ((H.push ⟨[.int .i64 T, .int .i64 S, v], 1, false, false⟩).push ⟨[.int .i64 0, .int .i64 0, .slice none 0 0], 1, false, false⟩).n = H.n + 2 := rfl
 generalize hTT : ((.seq (.ops (⟨some 13, _, _⟩ :: _) _) _) : XCode) = TT
 simp only [zZ, zY, ofArgs, qb_i, qb_j, ev, if_true, if_false, reduceCtorEq, Nat.reduceEqDiff, Nat.reduceLT, Nat.zero_add, Nat.reduceAdd, vA, n1']
 rw [n1'] at r1
 have b2 := b1.ext x2
 have x12 := x1.trans x2
 generalize (H.push ⟨[.int .i64 T, .int .i64 S, v], 1, false, false⟩).push ⟨[.int .i64 0, .int .i64 0, .slice none 0 0], 1, false, false⟩ = H2 at *
 have ldn2 := b2.ldn 3 rfl
 have hsec := Secs.ext x12 dk.secs
 subst hTT
 generalize hTT : ((.seq (.seq (.ops (⟨some 19, _, _⟩ :: _) _) _) _) : XCode) = TT
 simp only [zZ, zY, q_U, q_Y, v_ld, ev, qb_p, qb_q, if_true, if_false, Nat.reduceEqDiff, Nat.reduceLT, ldn2]
 refine ylO R ds nm hds hnm hn8 hdl7 at' p its hf hF g v H2 _ hsec (hg.ext x12) ?_
 intro H3 x3
 have x13 := x12.trans x3
 have b3 := b2.ext x3
 have r3 := r1.ext x3
 have ldn3 := b3.ldn 3 rfl
 have ld := yaY (Sl.ext x13 hd)
 have c65 : ¬ ((data.length : Int) > 65535) := by unfold need at hn4; omega
 subst hTT
 generalize hTT : ((.seq (.ops (⟨some 27, _, _⟩ :: _) _) _) : XCode) = TT
 simp only [zZ, zY, q_d, q_C, q_P, q_Q, q_R, q_W, q_X, ev, xbin, ibin, if_true, if_false, Nat.reduceEqDiff, Nat.reduceLT, bne_self_eq_false, ld, c65, decide_false]
 subst hTT
 generalize hTT : ((.seq (.seq (.ops (⟨some 29, _, _⟩ :: _) _) _) _) : XCode) = TT
 simp only [zZ, zY, q_U, v_ld, v_st, ev, qb_p, qb_q, qb_v, if_true, if_false, Nat.reduceEqDiff, Nat.reduceLT, ldn3]
 refine yle T S v H3 L _ (Secs.ext x3 hsec) R'.h8 (by omega) (by omega) ?_
 intro w vs H4 d4 x4
 obtain ⟨w1, w2⟩ := yan d4.own.1
 have b4 := b3.ext x4
 have r4 := r3.ext x4
 have st4 := b4.stn 3 [.int .i64 T, .int .i64 S, w] rfl rfl (by simp only [List.all_cons, List.all_nil, w1, yaR]; rfl)
 have b5 := b4.set [.int .i64 T, .int .i64 S, w]
 have hH3 : H.n + 1 < H3.n := r3.2
 have pE : ∀ E, E < H3.n -> Prot w vs E := fun E hE => Dk.protL d4 hE
 have d5 : Dk H3.n L.length (H4.set H.n ⟨[.int .i64 T, .int .i64 S, w], 1, false, false⟩) w vs L := d4.set (pE _ (by omega)).1 (pE _ (by omega)).2
 have r5 : Bx (H4.set H.n ⟨[.int .i64 T, .int .i64 S, w], 1, false, false⟩) (H.n + 1) [.int .i64 0, .int .i64 0, .slice none 0 0] := r4.same (Nat.le_refl _) (by rw [AH.get_set, if_neg (by omega)])
 have x05 : HExt H (H4.set H.n ⟨[.int .i64 T, .int .i64 S, w], 1, false, false⟩) := (x13.trans x4).trans' (Nat.le_refl _) fun b hb => by rw [AH.get_set, if_neg (by omega)]
 have n45 : H3.n <= (H4.set H.n ⟨[.int .i64 T, .int .i64 S, w], 1, false, false⟩).n := x4.1
 simp only [q_q, st4]
 generalize H4.set H.n ⟨[.int .i64 T, .int .i64 S, w], 1, false, false⟩ = H5 at *
 have ldn5 := b5.ldn 3 rfl
 have jl := yeb (ds ++ [nm]) hns
 have hl8 : (ds ++ [nm]).length <= 8 := by simp; omega
 subst hTT
 generalize hTT : ((.seq (.seq (.ops (⟨some 50, _, _⟩ :: _) _) _) _) : XCode) = TT
 simp only [zZ, zY, q_U, q_W, v_ld, ev, qb_p, qb_q, xbin, ibin, if_true, if_false, Nat.reduceEqDiff, Nat.reduceLT, ldn5]
 refine yix R (ds ++ [nm]) hns.nosl hns.ne (by omega) (by omega) T S w H5 _ d5.secs (hg.ext x05) ?_
 intro H6 x6
 rw [hnone]
 have b6 := b5.ext x6
 have r6 := r5.ext x6
 have ldn6 := b6.ldn 3 rfl
 have d6 := d5.ext x6
 have cN : ¬ (optI none >= 0) := by decide
 have dvlt : ∀ b, inB dv b -> b < H3.n := fun b hb => Nat.lt_of_lt_of_le (hd.lt hb) x13.1
 simp only [zZ, zY, q_C, q_U, v_ld, ev, qb_p, qb_q, if_true, if_false, Nat.reduceEqDiff, Nat.reduceLT, cN, decide_false, ldn6]
 refine yql R' K (by omega) at' p n its nm 1 data ha hF hn hFn hfst hs ⟨hnm, hn8, by omega⟩ hl (.inl rfl) hd8 hn4 (by omega) T S w vs H3.n dv H6 _ d6 (Nat.le_trans n45 x6.1) (Sl.ext (x05.trans x6) hd) (fun b hb => pE b (dvlt b hb)) ?_
 intro H7 vs' L' ps2 ps3 d7 hl7 R7 f7
 rw [add_G (F := F) (P := P) (at' := at') (n := n) (p := p) (kd := 1) (fun e => by rw [e, hFn] at hF; cases hF) its nm data ps2 ps3 (.fil at' data) rfl rfl rfl] at R7
 have b7 := f7.bx b6 (pE _ (by omega))
 have r7 := f7.bx r6 (pE _ (by omega))
 have ldn7 := b7.ldn 3 rfl
 have st7 := r7.stn 3 [.int .i64 T, .int .i64 S, w] rfl rfl (by simp only [List.all_cons, List.all_nil, w1, yaR]; rfl)
 have r8 := r7.set [.int .i64 T, .int .i64 S, w]
 have hcell : ∀ (fr : Fr) (xs : List XRes), fr.get 6 = some (.pointer (some ⟨H.n + 1, 0, none⟩)) -> xress fr (H7.set (H.n + 1) ⟨[.int .i64 T, .int .i64 S, w], 1, false, false⟩) (.cell 6 (some 3) :: xs) = (xress fr (H7.set (H.n + 1) ⟨[.int .i64 T, .int .i64 S, w], 1, false, false⟩) xs).map fun vs => .agg #[.int .i64 T, .int .i64 S, w] :: vs := by
  intro fr xs hfr
  rw [ybI fr _ 6 _ 0 (some 3) _ (.agg #[.int .i64 T, .int .i64 S, w]) xs hfr r8.1 rfl]
 have d8 : Dk H3.n L'.length (H7.set (H.n + 1) ⟨[.int .i64 T, .int .i64 S, w], 1, false, false⟩) w vs' L' := d7.set (Dk.protL d7 (by omega)).1 (Dk.protL d7 (by omega)).2
 subst hTT
 simp only [zZ, zY, q_d, q_f, q_m, q_C, q_W, v_ld, v_st, ev, qb_v, xbin, ibin, qb_A, qb_B, qb_C, resV, qb_D, if_true, if_false, Nat.reduceEqDiff, Nat.reduceLT, bne_self_eq_false, ldn7, st7, hcell]
 have KA := TOk.add (e := .fil at' data) K hF hn hFn hs ⟨hnm, hn8, by omega⟩ (by omega) rfl (fun q l h => by cases h) hf hdl7
 refine hq _ w ⟨⟨L', vs', d8.less (by omega), ⟨⟨_, R7⟩, KA⟩, yp8 g hl7, by omega⟩, h43⟩ ?_
 exact (FrD.hext d6 f7 (x05.trans x6) (by omega)).trans' (Nat.le_refl _) fun b hb => by rw [AH.get_set, if_neg (by omega)]
end Go.Proofs.YtnjjnnfpnjjccaaGreatDoor.D
