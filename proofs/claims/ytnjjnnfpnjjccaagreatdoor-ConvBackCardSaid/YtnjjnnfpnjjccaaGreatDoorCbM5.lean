/- What runs of the program's functions compute, on a heap of the run's own, and that the machine does what such a run says: the conditions stand in each theorem. -/
import Derived.Test.YtnjjnnfpnjjccaaGreatDoorCbM4
set_option linter.unusedSimpArgs false
set_option linter.unusedVariables false
namespace Go.Proofs.YtnjjnnfpnjjccaaGreatDoor.D
open Go Go.Det
def OwnS (n0 : Nat) (F : Nat -> Prop) (H : AH) (v : Value) (L : List (List Int)) : Prop :=
 ∃ vs : List Value, Own n0 1 H v L.length vs /\ ∀ (i : Nat) (x : Value), vs[i]? = some x -> (∃ l, L[i]? = some l /\ Byts H x l) /\ ∀ b, inB x b -> ¬ inB v b /\ ¬ F b
def Secs (H : AH) (v : Value) (L : List (List Int)) : Prop :=
 ∃ vs : List Value, Sl H 1 v L.length vs /\ ∀ (i : Nat) (x : Value), vs[i]? = some x -> ∃ l, L[i]? = some l /\ Byts H x l
theorem Secs.ext {H H' : AH} {v : Value} {L : List (List Int)} (hx : HExt H H') (h : Secs H v L) : Secs H' v L := by
 obtain ⟨vs, h1, h2⟩ := h
 refine ⟨vs, Sl.ext hx h1, fun i x hi => ?_⟩
 obtain ⟨l, h3, h4⟩ := h2 i x hi
 exact ⟨l, h3, Sl.ext hx h4⟩
theorem OwnS.secs {n0 : Nat} {F : Nat -> Prop} {H : AH} {v : Value} {L : List (List Int)} (h : OwnS n0 F H v L) : Secs H v L := by
 obtain ⟨vs, h1, h2⟩ := h
 exact ⟨vs, h1.1, fun i x hi => (h2 i x hi).1⟩
theorem OwnS.mono {n0 : Nat} {F : Nat -> Prop} {H H' : AH} {v : Value} {L : List (List Int)} (h : OwnS n0 F H v L) (hF : ∀ b, F b -> b < n0) (hn : H.n <= H'.n) (hg : ∀ b, b < H.n -> ¬ F b -> H'.get b = H.get b) : OwnS n0 F H' v L := by
 obtain ⟨vs, h1, h2⟩ := h
 refine ⟨vs, Own.same h1 hn fun b hb => hg b (h1.1.lt hb) fun hf => ?_, fun i x hi => ?_⟩
 ·obtain ⟨o, l, c, e⟩ := hb
  have := (h1.2 b o l c e).1
  have := hF b hf
  omega
 ·obtain ⟨⟨l, h3, h4⟩, h5⟩ := h2 i x hi
  exact ⟨⟨l, h3, Sl.same h4 hn fun b hb => hg b (Sl.lt h4 hb) (h5 b hb).2⟩, h5⟩
theorem OwnS.ext {n0 : Nat} {F : Nat -> Prop} {H H' : AH} {v : Value} {L : List (List Int)} (h : OwnS n0 F H v L) (hF : ∀ b, F b -> b < n0) (hx : HExt H H') : OwnS n0 F H' v L :=
 h.mono hF hx.1 fun b hb _ => hx.2 b hb
theorem OwnS.nil (n0 : Nat) (F : Nat -> Prop) (H : AH) : OwnS n0 F H (.slice none 0 0) [] := ⟨[], Own.nil _ _ _, fun i x hi => by simp at hi⟩
theorem OwnS.len {n0 : Nat} {F : Nat -> Prop} {H : AH} {v : Value} {L : List (List Int)} (h : OwnS n0 F H v L) : pLen v H = some (.int .i64 (L.length : Int), H) := by
 obtain ⟨vs, h1, _⟩ := h
 exact ybC h1.1
theorem Secs.len {H : AH} {v : Value} {L : List (List Int)} (h : Secs H v L) : pLen v H = some (.int .i64 (L.length : Int), H) := by
 obtain ⟨vs, h1, _⟩ := h
 exact ybC h1
theorem Secs.at {H : AH} {v : Value} {L : List (List Int)} (h : Secs H v L) (i : Int) (k : Nat) (hi : i = (k : Int)) (hk : k < L.length) :
  ∃ x, pIdx 1 v (.int .i64 i) H = some (ptrAt v k, H) /\ pLd none (ptrAt v k) H = some (x, H) /\ Byts H x (L[k]'hk) := by
 obtain ⟨vs, h1, h2⟩ := h
 have hl := h1.len
 have hkv : k < vs.length := by omega
 obtain ⟨l, h3, h4⟩ := h2 k _ (List.getElem?_eq_getElem hkv)
 rw [List.getElem?_eq_getElem hk] at h3
 cases h3
 exact ⟨vs[k], yau h1 .i64 i k hi hk, yaV h1 k _ (List.getElem?_eq_getElem hkv), h4⟩
theorem Secs.sl {H : AH} {v : Value} {L : List (List Int)} (h : Secs H v L) : one v = true /\ vcells v = [v] /\ veq v v = true := by
 obtain ⟨vs, h1, _⟩ := h
 exact ⟨(ye1 h1).1, (ye1 h1).2, h1.veq⟩
theorem ylr (v : Value) (H : AH) (L : List (List Int)) (hs : Secs H v L) (hl : ∀ l ∈ L, l.length = 128) (hL : L.length <= 1000) (r : Nat) : ∀ (k : Nat) (i N : Int) (Q : XExit -> Fr -> AH -> Prop), k + r = L.length -> i = (k : Int) -> N = (L.length : Int) ->
  Q (.exit 0) [(33, v), (34, .int .i64 N), (35, .int .i64 N), (36, .bool false)] H -> Run Tryz.prog tab (.loop ybg) [(33, v), (34, .int .i64 N), (35, .int .i64 i)] H Q := by
 induction r with
 | zero =>
  intro k i N Q hk hi hN hq
  rw [ybd]
  generalize hL : XCode.loop ybg = LL
  obtain rfl : i = N := by omega
  have hf : ¬ i < i := by omega
  simp only [zZ, zY, ybg, q_b, q_e, q_h, q_C, q_W, q_X, q_Z, v_ld, ev, xbin, ibin, if_true, if_false, Nat.reduceEqDiff, Nat.reduceLT, hf, decide_false]
  exact hq
 | succ r ih =>
  intro k i N Q hk hi hN hq
  have ih' := ih (k + 1) (i + 1) N Q (by omega) (by omega) hN hq
  rw [ybd]
  generalize hL : XCode.loop ybg = LL
  rw [hL] at ih'
  have hlt : i < N := by omega
  obtain ⟨x, e1, e2, e3⟩ := hs.at i k hi (by omega)
  have e5 := yaY e3
  rw [hl _ (List.getElem_mem (by omega))] at e5
  have c1 : (((128 : Nat) : Int) != 128) = false := rfl
  have e4 := wrI (i + 1) (by omega) (by omega)
  simp only [zZ, zY, ybg, q_b, q_d, q_j, q_B, q_C, q_W, q_X, q_Z, v_ld, ev, xbin, ibin, if_true, if_false, Nat.reduceEqDiff, Nat.reduceLT, hlt, decide_true, e1, e2, e5, c1, e4]
  exact ih'
theorem yh4 (T S : Int) (v : Value) (H : AH) (L : List (List Int)) (Q : Value -> AH -> Prop) (hs : Secs H v L) (hl : ∀ l ∈ L, l.length = 128) (hT : 1 <= T) (hT2 : T <= 20) (hS : 1 <= S) (hS2 : S <= 12) (hLL : (L.length : Int) = T * S)
  (hq : ∀ H', HExt H H' -> Q (.int .i64 0) H') : Got (xc Tryz.prog tab 91 [.agg #[.int .i64 T, .int .i64 S, v]] H) Q := by
 refine yac (res := [.tmp 2]) rfl ?_
 have hb : 0 <= T * S /\ T * S <= 240 := by
  have h1 : T * S <= 20 * S := Int.mul_le_mul_of_nonneg_right hT2 (by omega)
  have h2 : 1 * S <= T * S := Int.mul_le_mul_of_nonneg_right hT (by omega)
  omega
 have ev3 : vcells (.agg #[.int .i64 T, .int .i64 S, v]) = [.int .i64 T, .int .i64 S, v] := rfl
 have hg : (H.push ⟨[.int .i64 T, .int .i64 S, v], 1, false, false⟩).get H.n = some ⟨[.int .i64 T, .int .i64 S, v], 1, false, false⟩ := by rw [AH.get_push, if_pos rfl]
 have hx := yab H ⟨[.int .i64 T, .int .i64 S, v], 1, false, false⟩
 have hs' := hs.ext hx
 have e0 := ld3_0 hg
 have e1 := ld3_1 hg
 have e2 := ld3_2 hg
 have e3 := hs'.len
 have w1 := wrI (T * S) (by omega) (by omega)
 have c1 : ¬ T < 1 := by omega
 have c2 : ¬ T > 20 := by omega
 have c3 : ¬ S < 1 := by omega
 have c4 : ¬ S > 12 := by omega
 rw [hLL] at e3
 simp only [zZ, zY, ofArgs, q_b, q_d, q_f, q_m, q_t, q_C, q_W, q_X, v_ld, qb_h, qb_j, qb_o, ev, xbin, ibin, qb_A, qb_B, qb_C, if_true, if_false, reduceCtorEq, Nat.reduceEqDiff, Nat.reduceLT, Nat.zero_add, ev3, ye5, e0, e1, e2, e3, w1, c1, c2, c3, c4, decide_false, bne_self_eq_false]
 refine ylr v _ L hs' hl (by omega) L.length 0 0 _ _ (by omega) rfl hLL.symm ?_
 simp only [zZ, zY, q_h, q_k, resV, qb_D, if_true, if_false, Nat.reduceEqDiff, Nat.reduceLT]
 exact hq _ hx
theorem yiT (H : AH) (Q : Value -> AH -> Prop) (hq : ∀ H', HExt H H' -> Q (.int .i64 1) H') : Got (xc Tryz.prog tab 91 [.agg #[.int .i64 0, .int .i64 0, .slice none 0 0]] H) Q := by
 refine yac (res := [.tmp 2]) rfl ?_
 have ev3 : vcells (.agg #[.int .i64 0, .int .i64 0, .slice none 0 0]) = [.int .i64 0, .int .i64 0, .slice none 0 0] := rfl
 have hg : (H.push ⟨[.int .i64 0, .int .i64 0, .slice none 0 0], 1, false, false⟩).get H.n = some ⟨[.int .i64 0, .int .i64 0, .slice none 0 0], 1, false, false⟩ := by rw [AH.get_push, if_pos rfl]
 have e0 := ld3_0 hg
 simp only [zZ, zY, ofArgs, q_b, q_f, q_i, q_m, q_u, q_B, q_W, q_X, v_ld, qb_h, qb_j, qb_o, ev, xbin, ibin, qb_A, qb_B, qb_C, resV, qb_D, if_true, if_false, reduceCtorEq, Nat.reduceEqDiff, Nat.reduceLT, Int.reduceLT, Nat.zero_add, ev3, ye5, e0, decide_true]
 exact hq _ (yab H _)
theorem OwnS.lt {n0 : Nat} {F : Nat -> Prop} {H : AH} {v : Value} {L : List (List Int)} (h : OwnS n0 F H v L) {b : Nat} (hb : inB v b) : n0 <= b /\ b < H.n := by
 obtain ⟨vs, h1, h2⟩ := h
 refine ⟨?_, h1.1.lt hb⟩
 obtain ⟨o, l, c, e⟩ := hb
 exact (h1.2 b o l c e).1
def SecOk (l : List Int) : Prop := l.length = 128 /\ B8 l
def tb (L : List (List Int)) (i : Nat) : Int := (L.getD (i / 128) []).getD (i % 128) 0
def slt (L : List (List Int)) (i : Nat) : List Int := ((L.getD (2 + i / 4) []).drop (32 * (i % 4))).take 32
def nameB (b : List Int) : List Int := (b.take 20).takeWhile fun x => x != 0
def okc (c : Int) : Bool := (decide (c >= 97) && decide (c <= 122)) || ((decide (c >= 48) && decide (c <= 57)) || c == 45)
def okName (s : List Int) : Bool := !s.isEmpty && decide (s.length <= 20) && decide (s.getD 0 0 >= 97) && decide (s.getD 0 0 <= 122) && s.all okc
def endsB (b : List Int) : Bool := ((b.take 20).drop (nameB b).length).all (fun x => x == 0) && (b.drop 23).all fun x => x == 0
theorem yoi {l : List Int} (h : B8 l) (i n : Nat) : B8 ((l.drop i).take n) := fun b hb => h b (List.mem_of_mem_drop (List.mem_of_mem_take hb))
theorem tw_lt {p : Int -> Bool} : ∀ (l : List Int) (k : Nat), k < (l.takeWhile p).length -> ∃ x, l[k]? = some x /\ p x = true
 | [], k, h => by simp at h
 | a :: l, k, h => by
  by_cases hp : p a = true
  ·rw [List.takeWhile_cons, if_pos hp] at h
   cases k with
   | zero => exact ⟨a, rfl, hp⟩
   | succ k => exact tw_lt l k (by simpa using h)
  ·rw [List.takeWhile_cons, if_neg hp] at h; simp at h
theorem yn6 {p : Int -> Bool} : ∀ (l : List Int), (l.takeWhile p).length < l.length -> ∃ x, l[(l.takeWhile p).length]? = some x /\ p x = false
 | [], h => by simp at h
 | a :: l, h => by
  by_cases hp : p a = true
  ·rw [List.takeWhile_cons, if_pos hp] at h ⊢
   obtain ⟨x, h1, h2⟩ := yn6 l (by simpa using h)
   exact ⟨x, by simpa using h1, h2⟩
  ·rw [List.takeWhile_cons, if_neg hp]
   exact ⟨a, rfl, by simpa using hp⟩
theorem ylM {p : Int -> Bool} : ∀ (l : List Int), l.takeWhile p = l.take (l.takeWhile p).length
 | [] => rfl
 | a :: l => by
  by_cases hp : p a = true
  ·rw [List.takeWhile_cons, if_pos hp, List.length_cons, List.take_succ_cons, <- ylM l]
  ·rw [List.takeWhile_cons, if_neg hp]; rfl
theorem yh1 (b : List Int) : nameB b = b.take (nameB b).length := by
 have h1 := ylM (p := fun x => x != 0) (b.take 20)
 have h2 : (nameB b).length <= 20 := by
  unfold nameB
  have := (List.takeWhile_sublist (p := fun x : Int => x != 0) (l := b.take 20)).length_le
  have := List.length_take_le 20 b
  omega
 show nameB b = _
 have h3 : nameB b = (b.take 20).take (nameB b).length := h1
 rw [List.take_take, Nat.min_eq_left h2] at h3
 exact h3
theorem ygN (b : List Int) : (nameB b).length <= 20 := by
 unfold nameB
 have := (List.takeWhile_sublist (p := fun x : Int => x != 0) (l := b.take 20)).length_le
 have := List.length_take_le 20 b
 omega
theorem ynu (b : List Int) (k : Nat) (h : k < (nameB b).length) : ∃ x, b[k]? = some x /\ x ≠ 0 := by
 obtain ⟨x, h1, h2⟩ := tw_lt (b.take 20) k h
 rw [List.getElem?_take] at h1
 split at h1
 ·exact ⟨x, h1, by simpa using h2⟩
 ·cases h1
theorem ymj (b : List Int) (hb : 20 <= b.length) (h : (nameB b).length < 20) : b[(nameB b).length]? = some 0 := by
 obtain ⟨x, h1, h2⟩ := yn6 (p := fun x => x != 0) (b.take 20) (by rw [List.length_take]; show (nameB b).length < _; omega)
 have h1 : (b.take 20)[(nameB b).length]? = some x := h1
 rw [List.getElem?_take, if_pos h] at h1
 have : x = 0 := by simpa using h2
 rw [this] at h1; exact h1
theorem yiO {b : List Int} (h : B8 b) : B8 (nameB b) := fun x hx => h x (by
 rw [yh1] at hx
 exact List.mem_of_mem_take hx)
theorem quoN (k m : Nat) (h : k < 4611686018427387904) : IntKind.i64.wrap ((k : Int).tdiv (m : Int)) = ((k / m : Nat) : Int) := by
 have e : (k : Int).tdiv (m : Int) = ((k / m : Nat) : Int) := rfl
 have := Nat.div_le_self k m
 rw [e]
 generalize k / m = q at *
 rw [wrI _ (by omega) (by omega)]
theorem ya5 (kd : IntKind) (n : Int) (h0 : 0 <= n) (h1 : n < 4611686018427387904) (H : AH) : pConv .i64 (.int kd n) H = some (.int .i64 n, H) := by
 show some (Value.int .i64 (IntKind.i64.wrap n), H) = _
 rw [wrI _ (by omega) (by omega)]
theorem yaa {α : Type} {l : List α} {k : Nat} {a d : α} (h : l[k]? = some a) : l.getD k d = a := by rw [List.getD_eq_getElem?_getD, h]; rfl
theorem yeZ (T S : Int) (v : Value) (L : List (List Int)) (k : Nat) (H : AH) (Q : Value -> AH -> Prop) (hs : Secs H v L) (h8 : ∀ l ∈ L, SecOk l) (hk : k / 128 < L.length) (hk2 : k < 100000) (hq : ∀ H', HExt H H' -> Q (.int .i64 (tb L k)) H') :
  Got (xc Tryz.prog tab 98 [.agg #[.int .i64 T, .int .i64 S, v], .int .i64 (k : Int)] H) Q := by
 refine yac (res := [.tmp 4]) rfl ?_
 have vA : vcells (.agg #[.int .i64 T, .int .i64 S, v]) = [.int .i64 T, .int .i64 S, v] := rfl
 have b := Bx.new H [.int .i64 T, .int .i64 S, v]
 have x := yab H ⟨[.int .i64 T, .int .i64 S, v], 1, false, false⟩
 simp only [zZ, zY, ofArgs, q_f, q_m, q_W, q_Z, v_ld, qb_f, qb_h, qb_j, ev, xbin, ibin, qb_A, qb_B, qb_C, resV, qb_D, if_true, if_false, reduceCtorEq, Nat.reduceEqDiff, Nat.reduceLT, Nat.zero_add, vA]
 generalize H.push ⟨[.int .i64 T, .int .i64 S, v], 1, false, false⟩ = H1 at *
 have l2 := b.ld 2 v rfl
 have q1 : IntKind.i64.wrap ((k : Int).tdiv 128) = ((k / 128 : Nat) : Int) := quoN k 128 (by omega)
 have q2 : (k : Int).tmod 128 = ((k % 128 : Nat) : Int) := rfl
 obtain ⟨e, e1, e2, e3⟩ := (Secs.ext x hs).at ((k / 128 : Nat) : Int) (k / 128) rfl hk
 have h8' := h8 _ (List.getElem_mem hk)
 have hm : k % 128 < (L[k / 128]'hk).length := by rw [h8'.1]; exact Nat.mod_lt _ (by omega)
 have e4 := yam e3 ((k % 128 : Nat) : Int) (k % 128) rfl hm
 have e5 := yaJ e3 (k % 128) _ (List.getElem?_eq_getElem hm)
 have n0 : ¬ ((128 : Int) = 0) := by decide
 have ht : (L[k / 128]'hk)[k % 128]'hm = tb L k := by
  unfold tb
  rw [yaa (List.getElem?_eq_getElem hk), yaa (List.getElem?_eq_getElem hm)]
 have hb := h8'.2 _ (List.getElem_mem hm)
 rw [ht] at e5 hb
 have cv := fun H => ya5 .u8 (tb L k) (by omega) (by omega) H
 simp only [q_q, zC, if_false, fldAk, l2, n0, q1, q2, e1, e2, e4, e5, cv]
 exact hq H1 x
theorem yjl (T S : Int) (v x : Value) (l : List Int) (k : Nat) (hk2 : k < 100) (H : AH) (Q : Value -> AH -> Prop)
  (e1 : pIdx 1 v (.int .i64 ((2 + k / 4 : Nat) : Int)) (H.push ⟨[.int .i64 T, .int .i64 S, v], 1, false, false⟩) = some (ptrAt v (2 + k / 4), H.push ⟨[.int .i64 T, .int .i64 S, v], 1, false, false⟩))
  (e2 : pLd none (ptrAt v (2 + k / 4)) (H.push ⟨[.int .i64 T, .int .i64 S, v], 1, false, false⟩) = some (x, H.push ⟨[.int .i64 T, .int .i64 S, v], 1, false, false⟩))
  (hx : Byts (H.push ⟨[.int .i64 T, .int .i64 S, v], 1, false, false⟩) x l) (hl : l.length = 128)
  (hq : ∀ H' s', H' = H.push ⟨[.int .i64 T, .int .i64 S, v], 1, false, false⟩ -> Byts H' s' ((l.drop (32 * (k % 4))).take 32) -> (∀ j, ptrAt s' j = ptrAt x (32 * (k % 4) + j)) -> (∀ b, inB s' b ↔ inB x b) ->
   (∃ B o c c', x = .slice (some ⟨B, o, none⟩) 128 c /\ s' = .slice (some ⟨B, o + 32 * (k % 4), none⟩) 32 c' /\ 32 <= c' /\ 32 * (k % 4) + c' = c) -> Q s' H') :
  Got (xc Tryz.prog tab 65 [.agg #[.int .i64 T, .int .i64 S, v], .int .i64 (k : Int)] H) Q := by
 refine yac (res := [.tmp 4]) rfl ?_
 have vA : vcells (.agg #[.int .i64 T, .int .i64 S, v]) = [.int .i64 T, .int .i64 S, v] := rfl
 have b := Bx.new H [.int .i64 T, .int .i64 S, v]
 simp only [zZ, zY, ofArgs, q_f, q_m, q_L, q_M, q_N, q_O, Bool.false_and, zE, cond_false, q_W, q_Z, v_ld, qb_e, qb_h, qb_j, ev, xbin, ibin, qb_A, qb_B, qb_C, resV, qb_D, if_true, if_false, reduceCtorEq, Nat.reduceEqDiff, Nat.reduceLT, Nat.zero_add, vA]
 generalize hH1 : H.push ⟨[.int .i64 T, .int .i64 S, v], 1, false, false⟩ = H1 at *
 have l2 := b.ld 2 v rfl
 have q1 : IntKind.i64.wrap ((k : Int).tdiv 4) = ((k / 4 : Nat) : Int) := quoN k 4 (by omega)
 have q2 : (k : Int).tmod 4 = ((k % 4 : Nat) : Int) := rfl
 have w1 : IntKind.i64.wrap (2 + ((k / 4 : Nat) : Int)) = ((2 + k / 4 : Nat) : Int) := by rw [wrI _ (by omega) (by omega)]; omega
 have w2 : IntKind.i64.wrap (((k % 4 : Nat) : Int) * 32) = ((32 * (k % 4) : Nat) : Int) := by rw [wrI _ (by omega) (by omega)]; omega
 have w3 : IntKind.i64.wrap (((32 * (k % 4) : Nat) : Int) + 32) = ((32 * (k % 4) + 32 : Nat) : Int) := by rw [wrI _ (by omega) (by omega)]; omega
 have n0 : ¬ ((4 : Int) = 0) := by decide
 have hm := Nat.mod_lt k (by omega : 0 < 4)
 obtain ⟨s', k1, k2, k3, k4, B, o, c, c', k5, k6, k7, k8⟩ := yed (lo := some (.int .i64 ((32 * (k % 4) : Nat) : Int))) (hi := some (.int .i64 ((32 * (k % 4) + 32 : Nat) : Int))) (i := 32 * (k % 4)) (h := 32 * (k % 4) + 32) hx (by omega) rfl rfl (by omega) (by omega)
 simp only [q_q, zC, if_true, if_false, fldAk, l2, n0, q1, q2, w1, w2, w3, e1, e2, k1]
 have h32 : 32 * (k % 4) + 32 - 32 * (k % 4) = 32 := by omega
 have hlen : ((l.drop (32 * (k % 4))).take 32).length = 32 := by rw [List.length_take, List.length_drop]; omega
 refine hq H1 s' rfl ?_ (fun j => by rw [k2, Nat.mul_one]) k3 ⟨B, o, c, c', by rw [k5, hl], by rw [k6, h32, Nat.mul_one], by omega, by omega⟩
 rw [h32, Nat.mul_one, Nat.mul_one] at k4
 unfold Byts
 rw [hlen, List.map_take, List.map_drop]
 exact k4
theorem yeA (L : List (List Int)) (k : Nat) (h8 : ∀ l ∈ L, SecOk l) (hk : 2 + k / 4 < L.length) : (slt L k).length = 32 := by
 have := (h8 _ (List.getElem_mem hk)).1
 unfold slt
 rw [yaa (List.getElem?_eq_getElem hk), List.length_take, List.length_drop]
 have hm := Nat.mod_lt k (by omega : 0 < 4)
 omega
theorem yjk (L : List (List Int)) (k : Nat) (h8 : ∀ l ∈ L, SecOk l) (hk : 2 + k / 4 < L.length) : B8 (slt L k) := by
 unfold slt
 rw [yaa (List.getElem?_eq_getElem hk)]
 exact yoi (h8 _ (List.getElem_mem hk)).2 _ _
theorem yiZ {H : AH} {l : List Int} {B o c c' i n : Nat} (h : Byts H (.slice (some ⟨B, o, none⟩) l.length c) l) (hl : 0 < l.length) (h1 : i + n <= l.length) (h2 : n <= c') (h3 : i + c' = c) : Byts H (.slice (some ⟨B, o + i, none⟩) n c') ((l.drop i).take n) := by
 obtain ⟨s', k1, k2, k3, k4, B', o', d, d', k5, k6, k7, k8⟩ := yed (lo := some (.int .i64 (i : Int))) (hi := some (.int .i64 ((i + n : Nat) : Int))) (i := i) (h := i + n) h hl rfl rfl (by omega) (by omega)
 cases k5
 have e : i + n - i = n := by omega
 rw [e, Nat.mul_one] at k6
 rw [e, Nat.mul_one, Nat.mul_one] at k4
 have : d' = c' := by omega
 subst this
 subst k6
 have hlen : ((l.drop i).take n).length = n := by rw [List.length_take, List.length_drop]; omega
 unfold Byts
 rw [hlen, List.map_take, List.map_drop]
 exact k4
theorem Secs.at' {H0 : AH} {v : Value} {L : List (List Int)} (h : Secs H0 v L) (k : Nat) (hk : k < L.length) : ∃ x, Byts H0 x (L[k]'hk) /\ ∀ H', HExt H0 H' -> pIdx 1 v (.int .i64 (k : Int)) H' = some (ptrAt v k, H') /\ pLd none (ptrAt v k) H' = some (x, H') /\ Byts H' x (L[k]'hk) := by
 obtain ⟨vs, h1, h2⟩ := h
 have hvl : vs.length = L.length := by simpa using h1.len
 obtain ⟨x, hx⟩ : ∃ x, vs[k]? = some x := ⟨_, List.getElem?_eq_getElem (by omega)⟩
 obtain ⟨l, h3, h4⟩ := h2 k x hx
 have : l = L[k]'hk := by rw [List.getElem?_eq_getElem hk] at h3; exact (Option.some.inj h3).symm
 subst this
 exact ⟨x, h4, fun H' e => ⟨yau (Sl.ext e h1) .i64 _ k rfl hk, yaV (Sl.ext e h1) k x hx, Sl.ext e h4⟩⟩
theorem ykH (T S : Int) (v : Value) (L : List (List Int)) (k : Nat) (H0 H : AH) (x0 : HExt H0 H) (Q : Value -> AH -> Prop) (hs : Secs H0 v L) (h8 : ∀ l ∈ L, SecOk l) (hk : 2 + k / 4 < L.length) (hk2 : k < 100) (hq : ∀ H' s', HExt H H' -> Byts H0 s' (slt L k) -> Q s' H') :
  Got (xc Tryz.prog tab 65 [.agg #[.int .i64 T, .int .i64 S, v], .int .i64 (k : Int)] H) Q := by
 have x := yab H ⟨[.int .i64 T, .int .i64 S, v], 1, false, false⟩
 obtain ⟨e, e0, ee⟩ := hs.at' (2 + k / 4) hk
 obtain ⟨e1, e2, e3⟩ := ee _ (x0.trans x)
 have hl := (h8 _ (List.getElem_mem hk)).1
 refine yjl T S v e _ k hk2 H Q e1 e2 e3 hl ?_
 rintro H' s' rfl hb _ _ ⟨B, o, c, c', rfl, rfl, g1, g2⟩
 refine hq _ _ x ?_
 unfold slt
 rw [yaa (List.getElem?_eq_getElem hk)]
 have hm := Nat.mod_lt k (by omega : 0 < 4)
 have e0' : Byts H0 (.slice (some ⟨B, o, none⟩) (L[2 + k / 4]'hk).length c) (L[2 + k / 4]'hk) := by rw [hl]; exact e0
 exact yiZ e0' (by omega) (by omega) g1 g2
theorem yfh (T S : Int) (v : Value) (L : List (List Int)) (k : Nat) (H : AH) (Q : Value -> AH -> Prop) (hs : Secs H v L) (h8 : ∀ l ∈ L, SecOk l) (hk : 2 + k / 4 < L.length) (hk2 : k < 100) (hq : ∀ H' s', HExt H H' -> Byts H' s' (slt L k) -> Q s' H') :
  Got (xc Tryz.prog tab 65 [.agg #[.int .i64 T, .int .i64 S, v], .int .i64 (k : Int)] H) Q :=
 ykH T S v L k H H (.refl H) Q hs h8 hk hk2 fun H' s' x h => hq H' s' x (Sl.ext x h)
theorem yiN (b : List Int) (hb8 : B8 b) (hl : 20 <= b.length) (hl2 : b.length <= 1000) (s : Value) (H : AH) (hs : Byts H s b) : xc Tryz.prog tab 66 [s] H = some (.string (sB (nameB b)), H) := by
 refine ycd (yac (res := [.tmp 2]) rfl ?_)
 have hm := ygN b
 simp only [zZ, zY, ofArgs, q_b, q_f, q_m, q_L, q_M, q_N, q_O, Bool.false_and, zE, cond_false, qb_e, ev, qb_A, qb_B, qb_C, if_true, if_false, reduceCtorEq, Nat.reduceLT]
 refine ybo (fun k fr H' => H' = H /\ k <= (nameB b).length /\ fr = [(0, s), (3, .int .i64 (k : Int))]) (fun _ _ _ => False) (nameB b).length ⟨rfl, Nat.zero_le _, rfl⟩ ?_ (fun _ _ _ _ h => h.elim) (fun _ _ h => h) ?_
 ·rintro k hk fr H1 ⟨rfl, _, rfl⟩ J hJ _
  obtain ⟨x, hx, hx0⟩ := ynu b k hk
  have e1 := yam hs (k : Int) k rfl (by omega)
  have e2 := yaJ hs k x hx
  have hlt : (k : Int) < 20 := by omega
  have w3 := wrS k (by omega)
  have c : (x != 0) = true := by simpa using hx0
  simp only [zZ, zY, ycn, q_b, q_d, q_j, q_r, q_B, q_W, q_Z, v_ld, qb_o, ev, xbin, ibin, if_true, if_false, reduceCtorEq, Nat.reduceEqDiff, Nat.reduceLT, hlt, decide_true, e1, e2, c, w3]
  exact hJ _ _ ⟨rfl, hk, rfl⟩
 ·rintro fr H1 ⟨rfl, _, rfl⟩
  obtain ⟨s', k1, k2, _⟩ := yey (lo := none) (hi := some (.int .i64 ((nameB b).length : Int))) (i := 0) (h := (nameB b).length) hs rfl rfl (Nat.zero_le _) (by omega)
  have hB : Byts H1 s' (nameB b) := by
   unfold Byts
   have e : (nameB b).map (Value.int .u8) = ((b.map (Value.int .u8)).drop (0 * 1)).take (((nameB b).length - 0) * 1) := by
    rw [Nat.zero_mul, List.drop_zero, Nat.sub_zero, Nat.mul_one, <- List.map_take, <- yh1]
   rw [e]; exact k2
  have e3 := yj5 hB
  by_cases h20 : (nameB b).length < 20
  ·have h0 := ymj b hl h20
   have e1 := yam hs ((nameB b).length : Int) (nameB b).length rfl (by omega)
   have e2 := yaJ hs (nameB b).length 0 h0
   have hlt : ((nameB b).length : Int) < 20 := by omega
   simp only [zZ, zY, ycn, q_b, q_e, q_h, q_j, q_k, q_r, q_C, q_W, q_Z, v_ld, qb_o, ev, xbin, ibin, resV, qb_D, if_true, if_false, reduceCtorEq, Nat.reduceEqDiff, Nat.reduceLT, and_true, hlt, decide_true, e1, e2, bne_self_eq_false, k1, v_b2s, e3]
  ·have hlt : ¬ ((nameB b).length : Int) < 20 := by omega
   simp only [zZ, zY, ycn, q_b, q_e, q_h, q_j, q_k, q_s, q_C, q_W, qb_o, ev, xbin, ibin, resV, qb_D, if_true, if_false, reduceCtorEq, Nat.reduceEqDiff, Nat.reduceLT, and_true, hlt, decide_false, k1, v_b2s, e3]
theorem ty9 : Tryz.prog.underlying 9 = some .string := by kernel_rfl
theorem sbe {a b : List Int} (ha : Oct a) (hb : Oct b) : sbin .eql (sB a) (sB b) = some (.bool (decide (a = b))) := ylR ha hb
theorem sbn {a b : List Int} (ha : Oct a) (hb : Oct b) : sbin .neq (sB a) (sB b) = some (.bool (!decide (a = b))) := yot ha hb
theorem sbNil : (ByteArray.mk #[]) = sB [] := rfl
theorem yfG : B8 [] := fun b h => by simp at h
theorem optgd (v : Value) : (some v).getD undef = v := rfl
theorem yj8 (a : Int) (l : List Int) : okName (a :: l) = (decide (l.length + 1 <= 20) && decide (a >= 97) && decide (a <= 122) && (okc a && l.all okc)) := by
 simp [okName]
set_option maxHeartbeats 4000000 in
theorem yi1 (l : List Int) (h8 : B8 l) (hl : l.length <= 1000) (H : AH) : xc Tryz.prog tab 81 [.string (sB l)] H = some (.bool (okName l), H) := by
 refine ycd (yac (res := [.tmp 2]) rfl ?_)
 have e0 := sbe h8 yfG
 have ln := ydR l H
 cases l with
 | nil =>
  simp only [zZ, zY, ofArgs, q_b, q_f, q_i, q_m, q_u, q_B, q_W, qb_o, ev, xbin, ibin, qb_A, qb_B, qb_C, resV, qb_D, if_true, if_false, reduceCtorEq, Nat.reduceEqDiff, Nat.reduceLT, and_true, sbNil, e0, decide_true, ydX]
  rfl
 | cons a l =>
  have he : ¬ (a :: l = []) := by simp
  have s0 := yeC (a :: l) h8 .i64 0 0 rfl a rfl H
  have ok := yj8 a l
  by_cases c1 : ((a :: l).length : Int) > 20
  ·have : okName (a :: l) = false := by rw [ok, decide_eq_false (by simp at c1; omega)]; rfl
   simp only [zZ, zY, ofArgs, q_b, q_f, q_i, q_m, q_t, q_u, q_B, q_W, qb_o, ev, xbin, ibin, qb_A, qb_B, qb_C, resV, qb_D, if_true, if_false, reduceCtorEq, Nat.reduceEqDiff, Nat.reduceLT, and_true, sbNil, e0, he, decide_false, decide_true, ydX, ln, c1, this]
  by_cases c2 : a < 97
  ·have : okName (a :: l) = false := by rw [ok, decide_eq_false (by omega : ¬ a >= 97)]; simp
   simp only [zZ, zY, ofArgs, q_b, q_f, q_i, q_m, q_t, q_u, q_B, q_W, qb_o, ev, xbin, ibin, qb_A, qb_B, qb_C, resV, qb_D, if_true, if_false, reduceCtorEq, Nat.reduceEqDiff, Nat.reduceLT, and_true, sbNil, e0, he, decide_false, decide_true, ydX, ln, c1, c2, v_six ty9, optgd, s0, this]
  by_cases c3 : a > 122
  ·have : okName (a :: l) = false := by rw [ok, decide_eq_false (by omega : ¬ a <= 122)]; simp
   simp only [zZ, zY, ofArgs, q_b, q_f, q_i, q_m, q_t, q_B, q_W, qb_o, ev, xbin, ibin, qb_A, qb_B, qb_C, resV, qb_D, if_true, if_false, reduceCtorEq, Nat.reduceEqDiff, Nat.reduceLT, and_true, sbNil, e0, he, decide_false, decide_true, ydX, ln, c1, c2, c3, v_six ty9, optgd, s0, this]
  simp only [zZ, zY, ofArgs, q_b, q_d, q_f, q_m, q_t, q_C, q_W, qb_o, ev, xbin, ibin, qb_A, qb_B, qb_C, if_true, if_false, reduceCtorEq, Nat.reduceEqDiff, Nat.reduceLT, sbNil, e0, he, decide_false, ydX, ln, c1, c2, c3, v_six ty9, optgd, s0]
  have hok : okName (a :: l) = (a :: l).all okc := by
   rw [ok, decide_eq_true (by simp at c1; omega), decide_eq_true (by omega : a >= 97), decide_eq_true (by omega : a <= 122)]; simp
  rw [hok]
  generalize a :: l = l at *
  refine ybo (fun k fr H' => H' = H /\ (l.take k).all okc = true /\ fr = [(0, .string (sB l)), (23, .int .i64 (l.length : Int)), (24, .int .i64 (k : Int))]) (fun e fr H' => e = .ret /\ H' = H /\ l.all okc = false /\ fr = [(2, .bool false)]) l.length ⟨rfl, rfl, rfl⟩ ?_ ?_ (fun _ _ h => by cases h.1) ?_
  ·rintro k hk fr H1 ⟨rfl, hall, rfl⟩ J hJ hR
   obtain ⟨x, hx⟩ : ∃ x, l[k]? = some x := ⟨_, List.getElem?_eq_getElem hk⟩
   have sk := yeC l h8 .i64 (k : Int) k rfl x hx H1
   have hlt : (k : Int) < (l.length : Int) := by omega
   have w3 := wrS k (by omega)
   have good : okc x = true -> (l.take (k + 1)).all okc = true := fun h => by
    rw [yal _ _ _ hx, List.all_append, hall]; simpa using h
   have bad : okc x = false -> l.all okc = false := fun h => by
    rw [List.all_eq_false]
    exact ⟨x, List.mem_of_getElem? hx, by simp [h]⟩
   by_cases d1 : x >= 97
   ·by_cases d2 : x <= 122
    ·have hg := good (by simp [okc, d1, d2])
     simp only [zZ, zY, ya0, q_b, q_d, q_j, q_r, q_u, q_v, q_B, q_C, q_E, q_J, zE, q_W, qb_o, ev, xbin, ibin, if_true, if_false, reduceCtorEq, Nat.reduceEqDiff, Nat.reduceLT, hlt, decide_true, v_six ty9, optgd, sk, d1, d2, w3]
     exact hJ _ _ ⟨rfl, hg, rfl⟩
    ·have d3 : x >= 48 := by omega
     have d4 : ¬ x <= 57 := by omega
     have d5 : (x == 45) = false := by simp; omega
     have hg := bad (by simp only [okc, d2, d4, d5]; simp)
     simp only [zZ, zY, ya0, q_b, q_d, q_f, q_i, q_l, q_r, q_t, q_B, q_E, q_J, zD, q_W, qb_o, ev, xbin, ibin, if_true, if_false, reduceCtorEq, Nat.reduceEqDiff, Nat.reduceLT, hlt, decide_true, decide_false, v_six ty9, optgd, sk, d1, d2, d3, d4, d5]
     exact hR _ _ _ ⟨rfl, rfl, hg, rfl⟩
   ·by_cases d3 : x >= 48
    ·by_cases d4 : x <= 57
     ·have hg := good (by simp [okc, d3, d4])
      simp only [zZ, zY, ya0, q_b, q_d, q_j, q_r, q_s, q_t, q_u, q_B, q_C, q_E, q_J, zE, q_W, qb_o, ev, xbin, ibin, if_true, if_false, reduceCtorEq, Nat.reduceEqDiff, Nat.reduceLT, hlt, decide_true, decide_false, v_six ty9, optgd, sk, d1, d3, d4, w3]
      exact hJ _ _ ⟨rfl, hg, rfl⟩
     ·have d5 : (x == 45) = false := by simp; omega
      have hg := bad (by simp only [okc, d1, d4, d5]; simp)
      simp only [zZ, zY, ya0, q_b, q_d, q_f, q_i, q_l, q_r, q_s, q_t, q_B, q_E, q_J, zD, q_W, qb_o, ev, xbin, ibin, if_true, if_false, reduceCtorEq, Nat.reduceEqDiff, Nat.reduceLT, hlt, decide_true, decide_false, v_six ty9, optgd, sk, d1, d3, d4, d5]
      exact hR _ _ _ ⟨rfl, rfl, hg, rfl⟩
    ·cases d5 : (x == 45) with
     | true =>
      have hg := good (by simp only [okc, d5]; simp)
      simp only [zZ, zY, ya0, q_b, q_d, q_j, q_s, q_t, q_B, q_C, q_E, q_J, zE, q_W, qb_o, ev, xbin, ibin, if_true, if_false, reduceCtorEq, Nat.reduceEqDiff, Nat.reduceLT, hlt, decide_true, decide_false, v_six ty9, optgd, sk, d1, d3, d5, w3]
      exact hJ _ _ ⟨rfl, hg, rfl⟩
     | false =>
      have hg := bad (by simp only [okc, d1, d3, d5]; simp)
      simp only [zZ, zY, ya0, q_b, q_d, q_f, q_i, q_l, q_s, q_t, q_B, q_E, q_J, zD, q_W, qb_o, ev, xbin, ibin, if_true, if_false, reduceCtorEq, Nat.reduceEqDiff, Nat.reduceLT, hlt, decide_true, decide_false, v_six ty9, optgd, sk, d1, d3, d5]
      exact hR _ _ _ ⟨rfl, rfl, hg, rfl⟩
  ·rintro e fr H1 _ ⟨rfl, rfl, hg, rfl⟩
   rw [hg]
   simp only [q_i, q_l, q_m, qb_r, zB, zC, qb_A, qb_B, qb_C, resV, qb_D, if_true, and_true]
  ·rintro fr H1 ⟨rfl, hall, rfl⟩
   rw [List.take_length] at hall
   rw [hall]
   simp only [zZ, zY, ya0, q_b, q_e, q_h, q_k, q_C, q_W, ev, xbin, ibin, resV, qb_D, if_true, if_false, reduceCtorEq, Nat.reduceEqDiff, Nat.reduceLT, and_true, Int.lt_irrefl, decide_false]
def isNZ (g : Value) : Prop := ∀ (x : Int) (H : AH), pCallV (xc Tryz.prog tab) g [.int .u8 x] H = some (.bool (x != 0), H)
theorem nz1 : isNZ (.func (.func 128) #[] #[]) := by
 intro x H
 show xc Tryz.prog tab 128 [.int .u8 x] H = _
 refine ycd (yac (res := [.tmp 2]) rfl ?_)
 simp only [zZ, zY, ofArgs, q_f, q_m, q_W, ev, xbin, ibin, qb_A, qb_B, qb_C, resV, qb_D, if_true, if_false, reduceCtorEq, Nat.reduceEqDiff, Nat.reduceLT, true_and]
theorem nz2 : isNZ (.func (.func 157) #[] #[]) := by
 intro x H
 show xc Tryz.prog tab 157 [.int .u8 x] H = _
 refine ycd (yac (res := [.tmp 2]) rfl ?_)
 simp only [zZ, zY, ofArgs, q_f, q_m, q_W, ev, xbin, ibin, qb_A, qb_B, qb_C, resV, qb_D, if_true, if_false, reduceCtorEq, Nat.reduceEqDiff, Nat.reduceLT, true_and]
theorem ydW (g : Value) (hg : isNZ g) (l : List Int) (hl : l.length <= 1000) (s : Value) (H : AH) (hs : Byts H s l) : xc Tryz.prog tab 82 [s, g] H = some (.bool (l.any fun x => x != 0), H) := by
 have idx : xc Tryz.prog tab 110 [s, g] H = some (.int .i64 (if l.any (fun x => x != 0) then ((l.findIdx fun x => x != 0 : Nat) : Int) else -1), H) := by
  refine ycd (yac (res := [.tmp 4]) rfl ?_)
  have e0 := yaY hs
  simp only [zZ, zY, ofArgs, q_b, q_f, q_m, q_X, ev, qb_A, qb_B, qb_C, if_true, if_false, reduceCtorEq, Nat.reduceEqDiff, Nat.reduceLT, Nat.zero_add, e0]
  refine ybo (fun k fr H' => H' = H /\ (l.take k).any (fun x => x != 0) = false /\ fr = [(0, s), (1, g), (7, .int .i64 (l.length : Int)), (8, .int .i64 (k : Int))]) (fun e fr H' => e = .ret /\ H' = H /\ l.any (fun x => x != 0) = true /\ fr = [(4, .int .i64 ((l.findIdx fun x => x != 0 : Nat) : Int))]) l.length ⟨rfl, rfl, rfl⟩ ?_ ?_ (fun _ _ h => by cases h.1) ?_
  ·rintro k hk fr H1 ⟨rfl, hall, rfl⟩ J hJ hR
   obtain ⟨x, hx⟩ : ∃ x, l[k]? = some x := ⟨_, List.getElem?_eq_getElem hk⟩
   have e1 := yam hs (k : Int) k rfl hk
   have e2 := yaJ hs k x hx
   have hlt : (k : Int) < (l.length : Int) := by omega
   have w3 := wrS k (by omega)
   have hc := hg x H1
   cases hb : (x != 0) with
   | false =>
    rw [hb] at hc
    simp only [zZ, zY, yaC, q_b, q_d, q_j, q_B, q_C, q_W, q_Z, v_ld, ev, qb_p, qb_q, xbin, ibin, if_true, if_false, reduceCtorEq, Nat.reduceEqDiff, Nat.reduceLT, hlt, decide_true, e1, e2, yd8, hc, w3]
    exact hJ _ _ ⟨rfl, by rw [yal _ _ _ hx, List.any_append, hall]; simp [hb], rfl⟩
   | true =>
    rw [hb] at hc
    simp only [zZ, zY, yaC, q_b, q_d, q_f, q_i, q_l, q_B, q_W, q_Z, v_ld, ev, qb_p, qb_q, xbin, ibin, if_true, if_false, reduceCtorEq, Nat.reduceEqDiff, Nat.reduceLT, hlt, decide_true, e1, e2, yd8, hc]
    have hf : (l.findIdx fun x => x != 0) = k := by
     have h1 : l.findIdx (fun x => x != 0) <= k := by
      refine Nat.le_of_not_lt fun h => ?_
      have := List.not_of_lt_findIdx h
      obtain ⟨hk', e⟩ := List.getElem?_eq_some_iff.1 hx
      rw [e, hb] at this; cases this
     refine Nat.le_antisymm h1 (Nat.le_of_not_lt fun h => ?_)
     have hlt2 : l.findIdx (fun x => x != 0) < l.length := by omega
     have h2 := List.findIdx_getElem (w := hlt2)
     rw [List.any_eq_false] at hall
     refine hall _ ?_ h2
     rw [List.mem_iff_getElem?]
     exact ⟨l.findIdx fun x => x != 0, by rw [List.getElem?_take, if_pos h, List.getElem?_eq_getElem hlt2]⟩
    rw [hf] at hR
    refine hR _ _ _ ⟨rfl, rfl, ?_, rfl⟩
    rw [List.any_eq_true]
    exact ⟨x, List.mem_of_getElem? hx, hb⟩
  ·rintro e fr H1 _ ⟨rfl, rfl, hg, rfl⟩
   rw [hg]
   simp only [q_i, q_l, q_m, qb_r, zB, zC, qb_A, qb_B, qb_C, resV, qb_D, if_true, and_true]
  ·rintro fr H1 ⟨rfl, hall, rfl⟩
   rw [List.take_length] at hall
   rw [hall]
   simp only [zZ, zY, yaC, q_b, q_e, q_h, q_k, q_C, q_W, q_Z, v_ld, ev, xbin, ibin, resV, qb_D, if_true, if_false, reduceCtorEq, Nat.reduceEqDiff, Nat.reduceLT, and_true, Int.lt_irrefl, decide_false]
 refine ycd (yac (res := [.tmp 4]) rfl ?_)
 cases hb : l.any (fun x => x != 0) with
 | true =>
  have c : ((l.findIdx fun x => x != 0 : Nat) : Int) >= 0 := by omega
  rw [hb, if_pos rfl] at idx
  simp only [zZ, zY, ofArgs, q_f, q_m, q_U, q_W, ev, qb_p, qb_q, xbin, ibin, qb_A, qb_B, qb_C, resV, qb_D, if_true, if_false, reduceCtorEq, Nat.reduceEqDiff, Nat.reduceLT, Nat.zero_add, and_true, idx, c, decide_true]
 | false =>
  have c : ¬ ((-1 : Int) >= 0) := by decide
  rw [hb, if_neg (by simp)] at idx
  simp only [zZ, zY, ofArgs, q_f, q_m, q_U, q_W, ev, qb_p, qb_q, xbin, ibin, qb_A, qb_B, qb_C, resV, qb_D, if_true, if_false, reduceCtorEq, Nat.reduceEqDiff, Nat.reduceLT, Nat.zero_add, and_true, idx, c, decide_false]
theorem ypr (l : List Int) : (l.all fun x => x == 0) = !(l.any fun x => x != 0) := by
 induction l with
 | nil => rfl
 | cons a l ih => rw [List.all_cons, List.any_cons, ih]; cases h : (a == 0) <;> simp [bne, h]
theorem ypi (b : List Int) (hb8 : B8 b) (hl : b.length = 32) (s : Value) (H : AH) (hs : Byts H s b) : xc Tryz.prog tab 129 [s] H = some (.bool (endsB b), H) := by
 refine ycd (yac (res := [.tmp 2]) rfl ?_)
 have hm := ygN b
 have nm := yiN b hb8 (by omega) (by omega) s H hs
 have ln := ydR (nameB b) H
 simp only [zZ, zY, ofArgs, q_b, q_f, q_m, q_J, q_L, q_M, q_N, Bool.false_and, zD, cond_false, q_U, qb_e, ev, qb_p, qb_q, qb_A, qb_B, qb_C, if_true, if_false, reduceCtorEq, Nat.reduceEqDiff, Nat.reduceLT, nm, ydX, ln]
 refine ybo (fun k fr H' => H' = H /\ ((b.take ((nameB b).length + k)).drop (nameB b).length).all (fun x => x == 0) = true /\ fr = [(0, s), (3, .int .i64 (((nameB b).length + k : Nat) : Int))]) (fun e fr H' => e = .ret /\ H' = H /\ endsB b = false /\ fr = [(2, .bool false)]) (20 - (nameB b).length) ⟨rfl, by rw [Nat.add_zero, List.drop_eq_nil_of_le (List.length_take_le _ _)]; rfl, rfl⟩ ?_ ?_ (fun _ _ h => by cases h.1) ?_
 ·rintro k hk fr H1 ⟨rfl, hall, rfl⟩ J hJ hR
  generalize hj : (nameB b).length + k = j at *
  obtain ⟨x, hx⟩ : ∃ x, b[j]? = some x := ⟨_, List.getElem?_eq_getElem (by omega)⟩
  have e1 := yam hs (j : Int) j rfl (by omega)
  have e2 := yaJ hs j x hx
  have hlt : (j : Int) < 20 := by omega
  have w3 := wrS j (by omega)
  cases hb : (x != 0) with
  | false =>
   simp only [zZ, zY, ycq, q_b, q_d, q_j, q_B, q_C, q_W, q_Z, v_ld, ev, xbin, ibin, if_true, if_false, reduceCtorEq, Nat.reduceEqDiff, Nat.reduceLT, hlt, decide_true, e1, e2, hb, w3]
   refine hJ _ _ ⟨rfl, ?_, by rw [<- hj]; rfl⟩
   have e : (nameB b).length + (k + 1) = j + 1 := by omega
   rw [e, yal _ _ _ hx, List.drop_append_of_le_length (by rw [List.length_take]; omega), List.all_append, hall]
   have : x = 0 := by simpa using hb
   simp [this]
  | true =>
   simp only [zZ, zY, ycq, q_b, q_d, q_f, q_i, q_l, q_B, q_W, q_Z, v_ld, ev, xbin, ibin, if_true, if_false, reduceCtorEq, Nat.reduceEqDiff, Nat.reduceLT, hlt, decide_true, e1, e2, hb]
   refine hR _ _ _ ⟨rfl, rfl, ?_, rfl⟩
   have h1 : ((b.take 20).drop (nameB b).length).all (fun x => x == 0) = false := by
    rw [List.all_eq_false]
    refine ⟨x, ?_, by simpa using hb⟩
    rw [List.mem_iff_getElem?]
    refine ⟨k, ?_⟩
    rw [List.getElem?_drop, hj, List.getElem?_take, if_pos (by omega), hx]
   unfold endsB
   rw [h1]; rfl
 ·rintro e fr H1 _ ⟨rfl, rfl, hg, rfl⟩
  rw [hg]
  simp only [q_i, q_l, q_m, qb_r, zB, zC, qb_A, qb_B, qb_C, resV, qb_D, if_true, and_true]
 ·rintro fr H1 ⟨rfl, hall, rfl⟩
  have e20 : (nameB b).length + (20 - (nameB b).length) = 20 := by omega
  rw [e20] at hall
  have hf : ¬ (((nameB b).length + (20 - (nameB b).length) : Nat) : Int) < 20 := by omega
  obtain ⟨s', k1, k2, _⟩ := yey (lo := some (.int .i64 23)) (hi := none) (i := 23) (h := b.length) hs rfl rfl (by omega) (Nat.le_refl _)
  have hB : Byts H1 s' (b.drop 23) := by
   unfold Byts
   have e : (b.drop 23).map (Value.int .u8) = ((b.map (Value.int .u8)).drop (23 * 1)).take ((b.length - 23) * 1) := by
    rw [Nat.mul_one, Nat.mul_one, List.map_drop, List.take_of_length_le (by simp)]
   rw [e, List.length_drop]; exact k2
  have cn := ydW _ nz2 (b.drop 23) (by rw [List.length_drop]; omega) s' H1 hB
  have hE : endsB b = !((b.drop 23).any fun x => x != 0) := by
   unfold endsB
   rw [hall, Bool.true_and, ypr]
  rw [hE]
  simp only [zZ, zY, ycq, q_b, q_e, q_h, q_k, q_C, q_E, q_W, q_Z, v_ld, ev, xbin, ibin, resV, qb_D, if_true, if_false, reduceCtorEq, Nat.reduceEqDiff, Nat.reduceLT, and_true, hf, decide_false, k1, cn]
def tbad (N k n : Int) : Bool := ((decide (k < 10) || decide (k >= N)) != (n == 253)) || (decide (n < 253) && (decide (n < 10) || decide (n >= N)))
def dirP : List (List Int) -> List (List Int) -> Int
 | _, [] => 0
 | seen, b :: r => if b.getD 0 0 = 0 then (if b.any (fun x => x != 0) then 3 else dirP seen r) else if !okName (nameB b) || !endsB b then 15 else if nameB b ∈ seen then 5 else dirP (seen ++ [nameB b]) r
def formP (L : List (List Int)) : Int := if L.length <= 10 then 13 else if (List.range 256).any (fun k => tbad (L.length : Int) (k : Int) (tb L k)) then 3 else dirP [] ((List.range 32).map (slt L))
theorem ty4 : Tryz.prog.underlying 4 = some .bool := by kernel_rfl
theorem ynH (E : Nat) (T S v : Value) (N k n : Int) (b : Bool) (H : AH) (Q : XExit -> Fr -> AH -> Prop) (hB : Bx H E [T, S, v]) (hv : pLen v H = some (.int .i64 N, H)) (hb : b = (decide (k < 10) || decide (k >= N)))
  (hq1 : tbad N k n = false -> Q .normal [(1, .pointer (some ⟨E, 0, none⟩)), (20, .int .i64 k), (53, .bool false)] H) (hq2 : tbad N k n = true -> Q .ret [(2, .int .i64 3)] H) :
  Run Tryz.prog tab (.seq (.ops [⟨some 35, .mov (.tmp 6), none⟩, ⟨some 36, .mov (.tmp 5), none⟩, ⟨some 37, .bin .eql (.tmp 36) (.const (.int .i64 253)), none⟩, ⟨some 38, .flat (.binOp .neq 4 (.tmp 35) (.tmp 37) 4) 4, none⟩, ⟨some 39, .mov (.tmp 38), none⟩, ⟨some 40, .mov (.tmp 5), some (39, false)⟩, ⟨some 41, .bin .lss (.tmp 40) (.const (.int .i64 253)), some (39, false)⟩, ⟨some 42, .mov (.tmp 41), some (39, false)⟩, ⟨some 43, .mov (.tmp 5), some (42, true)⟩, ⟨some 44, .bin .lss (.tmp 43) (.const (.int .i64 10)), some (42, true)⟩, ⟨some 45, .mov (.tmp 44), some (42, true)⟩, ⟨some 46, .mov (.tmp 5), some (45, false)⟩, ⟨some 47, .fldA 2 (.tmp 1), some (45, false)⟩, ⟨some 48, .ld none (.tmp 47), some (45, false)⟩, ⟨some 49, .len (.tmp 48), some (45, false)⟩, ⟨some 50, .bin .geq (.tmp 46) (.tmp 49), some (45, false)⟩, ⟨some 51, .pick (.tmp 45) (.const (.bool true)) (.tmp 50), some (42, true)⟩, ⟨some 52, .pick (.tmp 42) (.tmp 51) (.const (.bool false)), some (39, false)⟩, ⟨some 53, .pick (.tmp 39) (.const (.bool true)) (.tmp 52), none⟩] [1, 20, 53]) (.cond (.tmp 53) (.seq (.ops [⟨some 2, .mov (.const (.int .i64 3)), none⟩] [2]) .ret) .skip)) [(1, .pointer (some ⟨E, 0, none⟩)), (5, .int .i64 n), (6, .bool b), (20, .int .i64 k)] H Q := by
 have l2 := hB.ld 2 v rfl
 unfold tbad at hq1 hq2
 rw [<- hb] at hq1 hq2
 clear hb
 cases hc : (b != (n == 253)) with
 | true =>
  simp only [zZ, zY, q_f, q_u, q_v, q_B, q_G, q_W, qb_o, ev, xbin, ibin, if_true, if_false, Nat.reduceEqDiff, Nat.reduceLT, v_nqb ty4, hc]
  exact hq2 (by rw [hc]; rfl)
 | false =>
  rw [hc, Bool.false_or] at hq1 hq2
  by_cases c1 : n < 253
  ·by_cases c2 : n < 10
   ·simp only [zZ, zY, q_f, q_r, q_t, q_u, q_B, q_G, q_W, qb_o, ev, xbin, ibin, if_true, if_false, Nat.reduceEqDiff, Nat.reduceLT, v_nqb ty4, hc, c1, c2, decide_true]
    exact hq2 (by simp [c1, c2])
   ·by_cases c3 : n >= N
    ·simp only [zZ, zY, q_f, q_r, q_t, q_B, q_G, q_W, q_X, v_ld, qb_h, qb_o, ev, xbin, ibin, if_true, if_false, Nat.reduceEqDiff, Nat.reduceLT, v_nqb ty4, hc, c1, c2, decide_true, decide_false, fldAk, l2, hv, c3]
     exact hq2 (by simp [c1, c2, c3])
    ·simp only [zZ, zY, q_d, q_r, q_t, q_C, q_G, q_W, q_X, v_ld, qb_h, qb_o, ev, xbin, ibin, if_true, if_false, Nat.reduceEqDiff, Nat.reduceLT, v_nqb ty4, hc, c1, c2, decide_true, decide_false, fldAk, l2, hv, c3]
     exact hq1 (by simp [c1, c2, c3])
  ·simp only [zZ, zY, q_d, q_s, q_t, q_v, q_C, q_G, q_W, qb_o, ev, xbin, ibin, if_true, if_false, Nat.reduceEqDiff, Nat.reduceLT, v_nqb ty4, hc, c1, decide_false]
   exact hq1 (by simp [c1])
set_option maxHeartbeats 4000000 in
theorem ypa (E : Nat) (T S : Int) (v : Value) (L : List (List Int)) (H : AH) (Q : XExit -> Fr -> AH -> Prop) (hB : Bx H E [.int .i64 T, .int .i64 S, v]) (hs : Secs H v L) (h8 : ∀ l ∈ L, SecOk l) (hN : 10 < L.length) (hN2 : L.length <= 240)
  (hq1 : (List.range 256).any (fun k => tbad (L.length : Int) (k : Int) (tb L k)) = false -> ∀ H', HExt H H' -> Q (.exit 0) [(1, .pointer (some ⟨E, 0, none⟩)), (20, .int .i64 256), (21, .bool false)] H')
  (hq2 : (List.range 256).any (fun k => tbad (L.length : Int) (k : Int) (tb L k)) = true -> ∀ H', HExt H H' -> Q .ret [(2, .int .i64 3)] H') :
  Run Tryz.prog tab (.loop ycp) [(1, .pointer (some ⟨E, 0, none⟩)), (20, .int .i64 0)] H Q := by
 refine ybo (fun k fr H' => HExt H H' /\ (List.range k).any (fun k => tbad (L.length : Int) (k : Int) (tb L k)) = false /\ fr = [(1, .pointer (some ⟨E, 0, none⟩)), (20, .int .i64 (k : Int))]) (fun e fr H' => e = .ret /\ HExt H H' /\ (List.range 256).any (fun k => tbad (L.length : Int) (k : Int) (tb L k)) = true /\ fr = [(2, .int .i64 3)]) 256 ⟨HExt.refl H, rfl, rfl⟩ ?_ ?_ (fun _ _ h => by cases h.1) ?_
 ·rintro k hk fr H1 ⟨x1, hall, rfl⟩ J hJ hR
  have b1 := hB.ext x1
  have ldn := b1.ldn 3 rfl
  have hlt : (k : Int) < 256 := by omega
  have w3 := wrS k (by omega)
  unfold ycp
  generalize hD : ((.seq (.ops (⟨some 35, _, _⟩ :: _) _) _) : XCode) = D
  generalize hI : ((.ops (⟨some 54, _, _⟩ :: _) _) : XCode) = I
  simp only [zZ, zY, q_b, q_d, q_B, q_U, q_W, v_ld, ev, qb_p, qb_q, xbin, ibin, if_true, if_false, Nat.reduceEqDiff, Nat.reduceLT, hlt, decide_true, ldn]
  refine yeZ T S v L k H1 _ (Secs.ext x1 hs) h8 (by omega) (by omega) ?_
  intro H2 x2
  have x12 := x1.trans x2
  have b2 := b1.ext x2
  have l2 := b2.ld 2 v rfl
  have hv2 := (Secs.ext x12 hs).len
  have fin : ∀ b : Bool, b = (decide ((k : Int) < 10) || decide ((k : Int) >= (L.length : Int))) -> Run Tryz.prog tab D [(1, .pointer (some ⟨E, 0, none⟩)), (5, .int .i64 (tb L k)), (6, .bool b), (20, .int .i64 (k : Int))] H2 (blockQ 1 (thenQ (fun fr H => Run Tryz.prog tab I fr H J) J)) := by
   intro b hb
   subst hD hI
   refine ynH E _ _ v (L.length : Int) (k : Int) (tb L k) b H2 _ b2 hv2 hb ?_ ?_
   ·intro hf
    simp only [zZ, zY, q_j, q_W, ev, xbin, ibin, if_true, if_false, Nat.reduceEqDiff, Nat.reduceLT, w3]
    refine hJ _ _ ⟨x12, ?_, rfl⟩
    rw [List.range_succ, List.any_append, hall]; simp [hf]
   ·intro ht
    simp only [q_c, q_i, q_l, q_o, q_p, q_V, q_W, ev, qb_u, zB, xbin, ibin]
    refine hR _ _ _ ⟨rfl, x12, ?_, rfl⟩
    rw [List.any_eq_true]
    exact ⟨k, List.mem_range.2 hk, ht⟩
  by_cases c1 : (k : Int) < 10
  ·simp only [zZ, zY, q_u, qb_o, ev, if_true, if_false, Nat.reduceEqDiff, Nat.reduceLT, c1, decide_true]
   exact fin true (by simp [c1])
  ·by_cases c2 : (k : Int) >= (L.length : Int)
   ·simp only [zZ, zY, q_t, q_W, q_X, v_ld, qb_h, qb_o, ev, xbin, ibin, if_true, if_false, Nat.reduceEqDiff, Nat.reduceLT, c1, c2, decide_true, decide_false, fldAk, l2, hv2]
    exact fin true (by simp [c1, c2])
   ·simp only [zZ, zY, q_t, q_W, q_X, v_ld, qb_h, qb_o, ev, xbin, ibin, if_true, if_false, Nat.reduceEqDiff, Nat.reduceLT, c1, c2, decide_false, fldAk, l2, hv2]
    exact fin false (by simp [c1, c2])
 ·rintro e fr H1 _ ⟨rfl, x1, hg, rfl⟩
  exact hq2 hg H1 x1
 ·rintro fr H1 ⟨x1, hall, rfl⟩
  have hn : ((256 : Nat) : Int) = 256 := rfl
  simp only [zZ, zY, hn, ycp, q_b, q_e, q_h, q_C, q_U, q_W, v_ld, ev, qb_p, qb_q, xbin, ibin, if_true, if_false, Nat.reduceEqDiff, Nat.reduceLT, Int.lt_irrefl, decide_false]
  exact hq1 hall H1 x1
def seenC (l : List (List Int)) : List (List Int × Value) := l.map fun n => (n, .bool true)
theorem ynh (s : List Int) (l : List (List Int)) (i : Nat) : kvRes (kvGet s (seenC l) i) (.bool false) false = .bool (decide (s ∈ l)) := by
 induction l generalizing i with
 | nil => rfl
 | cons n l ih =>
  show kvRes (if s = n then some (i, Value.bool true) else kvGet s (seenC l) (i + 1)) (.bool false) false = _
  by_cases h : s = n
  ·rw [if_pos h]
   simp [h, kvRes, lkRes]
  ·rw [if_neg h, ih (i + 1)]
   simp [h]
theorem yng (s : List Int) (l : List (List Int)) (h : s ∉ l) : kvPut s (.bool true) (seenC l) = seenC (l ++ [s]) := by
 have : ∀ i, kvGet s (seenC l) i = none := by
  induction l with
  | nil => intro i; rfl
  | cons n l ih =>
   intro i
   show (if s = n then some (i, Value.bool true) else kvGet s (seenC l) (i + 1)) = none
   rw [if_neg (fun e => h (by simp [e]))]
   exact ih (fun hm => h (by simp [hm])) (i + 1)
 rw [ygS s _ _ 0 (this 0)]
 simp [seenC]
theorem yem (n k : Nat) (f : Nat -> List Int) (h : k < n) : ((List.range n).map f).drop k = f k :: ((List.range n).map f).drop (k + 1) := by
 rw [List.drop_eq_getElem_cons (by simpa using h)]
 simp
set_option maxHeartbeats 4000000 in
theorem yo9 (n0 E M : Nat) (T S : Int) (v : Value) (L : List (List Int)) (H0 H : AH) (Q : XExit -> Fr -> AH -> Prop) (x0 : HExt H0 H) (hn0 : n0 = H0.n) (hE : E < n0) (hM : n0 <= M) (hB : Bx H0 E [.int .i64 T, .int .i64 S, v]) (hs : Secs H0 v L) (h8 : ∀ l ∈ L, SecOk l) (hN : 10 < L.length) (hN2 : L.length <= 240) (hkv : KV H M (seenC []))
  (hq1 : dirP [] ((List.range 32).map (slt L)) = 0 -> ∀ H', HExt H0 H' -> Q (.exit 2) [(1, .pointer (some ⟨E, 0, none⟩)), (7, .map (some M)), (56, .int .i64 32), (57, .bool false)] H')
  (hq2 : dirP [] ((List.range 32).map (slt L)) ≠ 0 -> ∀ H', HExt H0 H' -> Q .ret [(2, .int .i64 (dirP [] ((List.range 32).map (slt L))))] H') :
  Run Tryz.prog tab (.loop yco) [(1, .pointer (some ⟨E, 0, none⟩)), (7, .map (some M)), (56, .int .i64 0)] H Q := by
 generalize hG : dirP [] ((List.range 32).map (slt L)) = G at hq1 hq2
 refine ybo (fun k fr H' => ∃ seen, HExt H0 H' /\ KV H' M (seenC seen) /\ dirP seen (((List.range 32).map (slt L)).drop k) = G /\ fr = [(1, .pointer (some ⟨E, 0, none⟩)), (7, .map (some M)), (56, .int .i64 (k : Int))]) (fun e fr H' => e = .ret /\ HExt H0 H' /\ G ≠ 0 /\ fr = [(2, .int .i64 G)]) 32 ⟨[], x0, hkv, hG, rfl⟩ ?_ ?_ (fun _ _ h => by cases h.1) ?_
 ·rintro k hk fr H1 ⟨seen, x1, kv1, hdir, rfl⟩ J hJ hR
  have b1 := hB.ext x1
  have ldn := b1.ldn 3 rfl
  have hlt : (k : Int) < 32 := by omega
  have w3 := wrS k (by omega)
  rw [yem 32 k _ hk] at hdir
  have hkL : 2 + k / 4 < L.length := by omega
  have hlen := yeA L k h8 hkL
  have hb8 := yjk L k h8 hkL
  simp only [zZ, zY, yco, q_b, q_d, q_j, q_B, q_J, q_U, q_W, q_Z, v_ld, ev, qb_p, qb_q, qb_v, xbin, ibin, if_true, if_false, Nat.reduceEqDiff, Nat.reduceLT, hlt, decide_true, ldn]
  refine yfh T S v L k H1 _ (Secs.ext x1 hs) h8 hkL (by omega) ?_
  intro H2 s x2 hb
  have x12 := x1.trans x2
  have kv2 := kv1.ext x2
  have e1 := yam hb 0 0 rfl (by omega)
  obtain ⟨c, hc⟩ : ∃ c, (slt L k)[0]? = some c := ⟨_, List.getElem?_eq_getElem (by omega)⟩
  have e2 := yaJ hb 0 c hc
  have hc0 : (slt L k).getD 0 0 = c := yaa hc
  simp only [dirP, hc0] at hdir
  by_cases c0 : c = 0
  ·rw [if_pos c0] at hdir
   have cb : (c == 0) = true := by simpa using c0
   have cn := ydW _ nz1 (slt L k) (by omega) s H2 hb
   cases hany : (slt L k).any (fun x => x != 0) with
   | true =>
    rw [hany, if_pos rfl] at hdir
    rw [hany] at cn
    simp only [zZ, zY, q_e, q_f, q_h, q_i, q_k, q_l, q_B, q_U, ev, qb_p, qb_q, if_true, if_false, Nat.reduceEqDiff, Nat.reduceLT, e1, e2, cb, cn]
    exact hR _ _ _ ⟨rfl, x12, by omega, by rw [<- hdir]⟩
   | false =>
    rw [hany, if_neg (by simp)] at hdir
    rw [hany] at cn
    simp only [zZ, zY, q_d, q_e, q_h, q_k, q_B, q_C, q_U, ev, qb_p, qb_q, if_true, if_false, Nat.reduceEqDiff, Nat.reduceLT, e1, e2, cb, cn, w3]
    exact hJ _ _ ⟨seen, x12, kv2, hdir, rfl⟩
  ·rw [if_neg c0] at hdir
   have cb : (c == 0) = false := by simpa using c0
   have nm := yiN (slt L k) hb8 (by omega) (by omega) s H2 hb
   have n8 := yiO hb8
   have nl := ygN (slt L k)
   have Nx := yi1 (nameB (slt L k)) n8 (by omega) H2
   have en := ypi (slt L k) hb8 hlen s H2 hb
   cases hN1 : okName (nameB (slt L k)) with
   | false =>
    rw [hN1, Bool.not_false, Bool.true_or, if_pos rfl] at hdir
    rw [hN1] at Nx
    simp only [zZ, zY, q_d, q_f, q_i, q_l, q_u, q_B, q_C, q_E, zD, qb_o, ev, if_true, if_false, Nat.reduceEqDiff, Nat.reduceLT, e1, e2, cb, nm, Nx]
    exact hR _ _ _ ⟨rfl, x12, by omega, by rw [<- hdir]⟩
   | true =>
    rw [hN1, Bool.not_true, Bool.false_or] at hdir
    rw [hN1] at Nx
    cases hE1 : endsB (slt L k) with
    | false =>
     rw [hE1, Bool.not_false, if_pos rfl] at hdir
     rw [hE1] at en
     simp only [zZ, zY, q_d, q_f, q_i, q_l, q_t, q_B, q_C, q_E, q_J, zE, zD, q_U, qb_o, ev, qb_p, qb_q, if_true, if_false, Nat.reduceEqDiff, Nat.reduceLT, e1, e2, cb, nm, Nx, en]
     exact hR _ _ _ ⟨rfl, x12, by omega, by rw [<- hdir]⟩
    | true =>
     rw [hE1, Bool.not_true, if_neg (by simp)] at hdir
     rw [hE1] at en
     have kg := kv2.get (nameB (slt L k)) n8 (.bool false) false
     rw [ynh] at kg
     by_cases hin : nameB (slt L k) ∈ seen
     ·rw [if_pos hin] at hdir
      rw [decide_eq_true hin] at kg
      simp only [zZ, zY, q_d, q_f, q_i, q_l, q_t, q_B, q_C, q_E, q_J, zE, q_U, qb_o, ev, qb_p, qb_q, if_true, if_false, Nat.reduceEqDiff, Nat.reduceLT, e1, e2, cb, nm, Nx, en, v_mlk, kg]
      exact hR _ _ _ ⟨rfl, x12, by omega, by rw [<- hdir]⟩
     ·rw [if_neg hin] at hdir
      rw [decide_eq_false hin] at kg
      obtain ⟨kp, kv3⟩ := kv2.put (nameB (slt L k)) n8 (.bool true)
      rw [yng _ _ hin] at kp kv3
      have x3 : HExt H0 (H2.set M ⟨kvC (seenC (seen ++ [nameB (slt L k)])), 0, false, false⟩) := ⟨x12.1, fun b hb => by rw [AH.get_set, if_neg (by omega)]; exact x12.2 b hb⟩
      simp only [zZ, zY, q_d, q_j, q_t, q_C, q_E, q_J, zE, q_U, qb_o, ev, qb_p, qb_q, if_true, if_false, Nat.reduceEqDiff, Nat.reduceLT, e1, e2, cb, nm, Nx, en, v_mlk, kg, v_mup, kp, w3]
      exact hJ _ _ ⟨seen ++ [nameB (slt L k)], x3, kv3, hdir, rfl⟩
 ·rintro e fr H1 _ ⟨rfl, x1, hg, rfl⟩
  exact hq2 hg H1 x1
 ·rintro fr H1 ⟨seen, x1, kv1, hdir, rfl⟩
  have hn : ((32 : Nat) : Int) = 32 := rfl
  rw [List.drop_eq_nil_of_le (by simp)] at hdir
  simp only [zZ, zY, hn, yco, q_b, q_e, q_h, q_j, q_C, q_J, q_U, q_W, q_Z, v_ld, ev, qb_p, qb_q, qb_v, xbin, ibin, if_true, if_false, Nat.reduceEqDiff, Nat.reduceLT, Int.lt_irrefl, decide_false]
  exact hq1 hdir.symm H1 x1
theorem yo8 (T S : Int) (v : Value) (L : List (List Int)) (H : AH) (Q : Value -> AH -> Prop) (hs : Secs H v L) (h8 : ∀ l ∈ L, SecOk l) (hT : 1 <= T) (hT2 : T <= 20) (hS : 1 <= S) (hS2 : S <= 12) (hLL : (L.length : Int) = T * S) (hN2 : L.length <= 240)
  (hq : ∀ H', HExt H H' -> Q (.int .i64 (formP L)) H') : Got (xc Tryz.prog tab 100 [.agg #[.int .i64 T, .int .i64 S, v]] H) Q := by
 refine yac (res := [.tmp 2]) rfl ?_
 have vA : vcells (.agg #[.int .i64 T, .int .i64 S, v]) = [.int .i64 T, .int .i64 S, v] := rfl
 have b := Bx.new H [.int .i64 T, .int .i64 S, v]
 have x := yab H ⟨[.int .i64 T, .int .i64 S, v], 1, false, false⟩
 generalize hT : ((.seq (.seq (.ops (⟨some 11, _, _⟩ :: _) _) _) _) : XCode) = TT
 simp only [zZ, zY, ofArgs, qb_j, ev, if_true, if_false, reduceCtorEq, Nat.reduceEqDiff, Nat.reduceLT, vA]
 generalize H.push ⟨[.int .i64 T, .int .i64 S, v], 1, false, false⟩ = H1 at *
 have ldn := b.ldn 3 rfl
 subst hT
 generalize hT : ((.seq (.seq (.ops (⟨some 16, _, _⟩ :: _) _) _) _) : XCode) = TT
 simp only [zZ, zY, q_U, q_W, v_ld, ev, qb_p, qb_q, xbin, ibin, if_true, if_false, Nat.reduceEqDiff, Nat.reduceLT, ldn]
 refine yh4 T S v H1 L _ (Secs.ext x hs) (fun l hl => (h8 l hl).1) (by omega) hT2 hS hS2 hLL ?_
 intro H2 x2
 have b2 := b.ext x2
 have x12 := x.trans x2
 have l2 := b2.ld 2 v rfl
 have hv2 := (Secs.ext x12 hs).len
 simp only [q_d, q_g, q_q, q_C, ev, qb_r, zC, if_true, if_false, Nat.reduceEqDiff, bne_self_eq_false]
 unfold formP at hq
 by_cases c1 : (L.length : Int) <= 10
 ·rw [if_pos (by omega)] at hq
  subst hT
  simp only [zZ, zY, q_b, q_f, q_i, q_m, q_B, q_W, q_X, v_ld, qb_h, ev, xbin, ibin, qb_A, qb_B, qb_C, resV, qb_D, if_true, if_false, Nat.reduceEqDiff, Nat.reduceLT, fldAk, l2, hv2, c1, decide_true]
  exact hq H2 x12
 rw [if_neg (by omega)] at hq
 subst hT
 generalize hT : ((.seq (.ops (⟨some 55, _, _⟩ :: _) _) _) : XCode) = TT
 simp only [zZ, zY, q_b, q_d, q_C, q_W, q_X, v_ld, qb_h, ev, xbin, ibin, if_true, if_false, Nat.reduceEqDiff, Nat.reduceLT, fldAk, l2, hv2, c1, decide_false]
 refine ypa H.n T S v L H2 _ b2 (Secs.ext x12 hs) h8 (by omega) hN2 ?_ ?_
 ·intro hf H3 x3
  rw [hf, if_neg (by simp)] at hq
  have x13 := x12.trans x3
  have b3 := b2.ext x3
  subst hT
  simp only [zZ, zY, q_b, q_f, q_h, q_k, q_m, ev, qb_A, qb_B, qb_C, if_true, if_false, Nat.reduceEqDiff, Nat.reduceLT, v_mkm]
  have x4 := yab H3 ⟨[], 0, false, false⟩
  refine yo9 H3.n H.n H3.n T S v L H3 (H3.push ⟨[], 0, false, false⟩) _ x4 rfl b3.2 (Nat.le_refl _) b3 (Secs.ext x13 hs) h8 (by omega) hN2 (KV.new H3) ?_ ?_
  ·intro h0 H4 x5
   rw [h0] at hq
   simp only [zZ, zY, q_h, q_k, resV, qb_D, if_true, if_false, Nat.reduceEqDiff, Nat.reduceLT]
   exact hq H4 (x13.trans x5)
  ·intro h0 H4 x5
   simp only [q_i, q_l, q_m, qb_r, zB, zC, qb_A, qb_B, qb_C, resV, qb_D, if_true]
   exact hq H4 (x13.trans x5)
 ·intro ht H3 x3
  rw [ht, if_pos rfl] at hq
  simp only [q_i, q_l, q_m, qb_r, zB, zC, qb_A, qb_B, qb_C, resV, qb_D, if_true]
  exact hq H3 (x12.trans x3)
def sizeB (b : List Int) : Int := b.getD 21 0 * 256 + b.getD 22 0
def folP (t : Nat -> Int) (N : Nat) : Nat -> Int -> List Bool -> List Int -> Int ⊕ (List Int × List Bool)
 | 0, _, _, _ => .inl 99
 | f + 1, i, us, out => if i = 254 then .inr (out, us) else if i < 10 \/ i >= (N : Int) \/ t i.toNat = 255 then .inl 3 else if us.getD i.toNat false = true then .inl 10 else folP t N f (t i.toNat) (us.set i.toNat true) (out ++ [i])
def folE (sz : Int) : Int ⊕ (List Int × List Bool) -> Int ⊕ (List Int × List Bool)
 | .inl e => .inl e
 | .inr p => if (p.1.length : Int) ≠ (sz + 127) / 128 then .inl 12 else .inr p
def folS (L : List (List Int)) (b : List Int) (us : List Bool) : Int ⊕ (List Int × List Bool) := folE (sizeB b) (folP (tb L) L.length (L.length + 2) (b.getD 20 0) us [])
def OwnU (n0 : Nat) (H : AH) (u : Value) (us : List Bool) : Prop := Own n0 1 H u us.length (us.map .bool)
theorem tb_b (L : List (List Int)) (k : Nat) (h8 : ∀ l ∈ L, SecOk l) : 0 <= tb L k /\ tb L k < 256 := by
 unfold tb
 rcases Nat.lt_or_ge (k / 128) L.length with h | h
 ·rw [yaa (List.getElem?_eq_getElem h)]
  have h2 := h8 _ (List.getElem_mem h)
  have hm : k % 128 < (L[k / 128]'h).length := by rw [h2.1]; exact Nat.mod_lt _ (by omega)
  rw [yaa (List.getElem?_eq_getElem hm)]
  exact h2.2 _ (List.getElem_mem hm)
 ·have : L.getD (k / 128) [] = [] := by rw [List.getD_eq_getElem?_getD, List.getElem?_eq_none h]; rfl
  rw [this]
  simp
theorem shl8 (x : Int) (h0 : 0 <= x) (h1 : x < 256) : IntKind.i64.wrap (x * 2 ^ (min (Int.toNat 8) IntKind.i64.bits)) = x * 256 := by
 have : (2 : Int) ^ (min (Int.toNat 8) IntKind.i64.bits) = 256 := by decide
 rw [this, wrI _ (by omega) (by omega)]
theorem ypm (us : List Bool) : ∀ (j : Nat), j < us.length -> us.getD j false = false -> (us.set j true).count true = us.count true + 1 := by
 induction us with
 | nil => intro j h; simp at h
 | cons a us ih =>
  intro j h hj
  cases j with
  | zero =>
   have : a = false := by simpa using hj
   subst this
   simp
  | succ j =>
   have := ih j (by simpa using h) (by simpa using hj)
   cases a <;> simp [this]
theorem OwnU.flip {n0 : Nat} {H : AH} {u : Value} {us : List Bool} {k : Nat} {c : Bool} {Q : Value -> AH -> Prop} (ho : OwnU n0 H u us) (hk : k < us.length) (hq : ∀ H', OwnU n0 H' u (us.set k c) -> Stp u H u H' -> Q undef H') : Got (pSt 1 (ptrAt u k) (.bool c) H) Q := by
 refine yfm ho (by simpa using hk) rfl rfl ?_
 intro H' o s
 refine hq H' ?_ s
 have el : (us.set k c).length = us.length := by simp
 unfold OwnU
 rw [el]
 have em : (us.set k c).map Value.bool = (us.map Value.bool).set k (.bool c) := by simp
 rw [em]; exact o
set_option maxHeartbeats 8000000 in
theorem yjG (T S : Int) (v b u : Value) (L : List (List Int)) (bl : List Int) (us : List Bool) (H0 H : AH) (Q : Value -> AH -> Prop) (x0 : HExt H0 H) (hs : Secs H0 v L) (h8 : ∀ l ∈ L, SecOk l) (hN : 10 < L.length) (hN2 : L.length <= 240)
  (hb : Byts H0 b bl) (hbl : bl.length = 32) (hb8 : B8 bl) (hu : OwnU H0.n H u us) (hul : us.length = L.length)
  (hq1 : ∀ e, folS L bl us = .inl e -> e ≠ 0 -> ∀ H', HExt H0 H' -> Q (.tuple [.slice none 0 0, .int .i64 e].toArray) H')
  (hq2 : ∀ out us', folS L bl us = .inr (out, us') -> ∀ H' vo, HExt H0 H' -> OwnU H0.n H' u us' -> Ints H' vo out -> (∀ b, inB vo b -> H.n <= b) -> us'.length = L.length -> Q (.tuple [vo, .int .i64 0].toArray) H') :
  Got (xc Tryz.prog tab 101 [.agg #[.int .i64 T, .int .i64 S, v], b, u] H) Q := by
 refine yac (res := [.tmp 6, .tmp 7]) rfl ?_
 have vA : vcells (.agg #[.int .i64 T, .int .i64 S, v]) = [.int .i64 T, .int .i64 S, v] := rfl
 have bE := Bx.new H [.int .i64 T, .int .i64 S, v]
 have x1 := yab H ⟨[.int .i64 T, .int .i64 S, v], 1, false, false⟩
 have n1 : (H.push ⟨[.int .i64 T, .int .i64 S, v], 1, false, false⟩).n = H.n + 1 := rfl
 have hub : ∀ c, inB u c -> H0.n <= c /\ c < H.n := fun c ⟨o, l, k, e⟩ => ⟨(hu.2 c o l k e).1, Sl.lt hu.1 ⟨o, l, k, e⟩⟩
 generalize hTT : ((.seq (.dops (.mk ⟨some 11, _, _⟩ _ _ _ :: _) _) _) : XCode) = TT
 simp only [zZ, zY, ofArgs, qb_j, ev, if_true, if_false, reduceCtorEq, Nat.reduceEqDiff, Nat.reduceLT, Nat.zero_add, Nat.reduceAdd, vA]
 generalize H.push ⟨[.int .i64 T, .int .i64 S, v], 1, false, false⟩ = H1 at *
 have x01 := x0.trans x1
 have hb1 : Byts H1 b bl := Sl.ext x01 hb
 have hu1 : OwnU H0.n H1 u us := Own.ext x1 hu
 have i20 := yam hb1 20 20 rfl (by omega)
 have i21 := yam hb1 21 21 rfl (by omega)
 have i22 := yam hb1 22 22 rfl (by omega)
 have d20 := yaJ hb1 20 _ (ya6 bl 20 (by omega))
 have d21 := yaJ hb1 21 _ (ya6 bl 21 (by omega))
 have d22 := yaJ hb1 22 _ (ya6 bl 22 (by omega))
 have r20 := yg9 bl hb8 20
 have r21 := yg9 bl hb8 21
 have r22 := yg9 bl hb8 22
 have c20 := fun H => ya5 .u8 (bl.getD 20 0) (by omega) (by omega) H
 have c21 := fun H => ya5 .u8 (bl.getD 21 0) (by omega) (by omega) H
 have c22 := fun H => ya5 .u8 (bl.getD 22 0) (by omega) (by omega) H
 have s8 := shl8 (bl.getD 21 0) (by omega) (by omega)
 have ws : IntKind.i64.wrap (bl.getD 21 0 * 256 + bl.getD 22 0) = sizeB bl := by rw [wrI _ (by omega) (by omega)]; rfl
 have n8 : ¬ ((8 : Int) < 0) := by decide
 subst hTT
 generalize hTT : ((.seq (.seq (.ops (⟨some 21, _, _⟩ :: _) _) _) _) : XCode) = TT
 rw [q_a]
 refine yaL _ _ _ _ _ rfl ?_
 simp only [zZ, zY, q_S, q_T, q_W, q_Z, v_ld, qb_f, ev, xbin, ibin, if_true, if_false, Nat.reduceEqDiff, Nat.reduceLT, i21, i22, d21, d22, c21, c22, n8, s8, ws]
 subst hTT
 generalize hTT : ((.seq (.seq (.ops (⟨some 56, _, _⟩ :: _) _) _) _) : XCode) = TT
 simp only [zZ, zY, q_b, q_Z, v_ld, qb_f, ev, if_true, if_false, Nat.reduceEqDiff, Nat.reduceLT, i20, d20, c20]
 have hsz : 0 <= sizeB bl /\ sizeB bl < 65536 := by unfold sizeB; omega
 generalize hR : folP (tb L) L.length (L.length + 2) (bl.getD 20 0) us [] = R
 have hfs : folS L bl us = folE (sizeB bl) R := by
  unfold folS
  rw [hR]
 clear i20 i21 i22 d20 d21 d22 c20 c21 c22 s8 ws
 generalize sizeB bl = sz at *
 refine ybo (fun k fr H' => ∃ i us' out vo, 0 <= i /\ i < 256 /\ out.length = k /\ k <= us'.count true /\ us'.length = L.length /\ k <= L.length + 1 /\ folP (tb L) L.length (L.length + 2 - k) i us' out = R /\ HExt H0 H' /\ Bx H' H.n [.int .i64 T, .int .i64 S, v] /\ OwnU H0.n H' u us' /\ OwnI H1.n H' vo out /\ fr = [(2, u), (3, .pointer (some ⟨H.n, 0, none⟩)), (8, vo), (9, .int .i64 sz), (10, .int .i64 i)])
  (fun e fr H' => (e = .exit 0 /\ ∃ us' out vo, R = .inr (out, us') /\ us'.length = L.length /\ out.length <= L.length /\ HExt H0 H' /\ OwnU H0.n H' u us' /\ Ints H' vo out /\ (∀ b, inB vo b -> H.n <= b) /\ fr = [(2, u), (3, .pointer (some ⟨H.n, 0, none⟩)), (8, vo), (9, .int .i64 sz), (10, .int .i64 254), (26, .bool false)]) \/ (e = .ret /\ ∃ er, R = .inl er /\ er ≠ 0 /\ HExt H0 H' /\ fr = [(6, .slice none 0 0), (7, .int .i64 er)]))
  (L.length + 1) ⟨_, us, [], .slice none 0 0, r20.1, r20.2, rfl, Nat.zero_le _, hul, Nat.zero_le _, hR, x01, bE, hu1, Own.nil _ _ _, rfl⟩ ?_ ?_ (fun _ _ h => by rcases h with ⟨h, _⟩ | ⟨h, _⟩ <;> cases h) ?_
 ·rintro k hk fr H2 ⟨i, us', out, vo, hi0, hi1, hol, hcnt, hul', hkL, hfol, x2, b2, u2, o2, rfl⟩ J hJ hRR
  have hcl := List.count_le_length (a := true) (l := us')
  have hkL' : k <= L.length := by omega
  have hf : L.length + 2 - k = (L.length + 1 - k) + 1 := by omega
  rw [hf] at hfol
  unfold folP at hfol
  obtain ⟨j, rfl⟩ : ∃ j : Nat, i = (j : Int) := ⟨i.toNat, by omega⟩
  rw [Int.toNat_natCast] at hfol
  by_cases c0 : (j : Int) = 254
  ·rw [if_pos c0] at hfol
   have cb : ((j : Int) != 254) = false := by simpa using c0
   simp only [zZ, zY, ybq, q_b, q_e, q_h, q_j, q_C, q_U, q_W, q_Z, v_ld, v_st, qb_a, qb_d, pBs1, ev, qb_p, qb_q, qb_v, xbin, ibin, if_true, if_false, Nat.reduceEqDiff, Nat.reduceLT, cb]
   refine hRR _ _ _ (.inl ⟨rfl, us', out, vo, hfol.symm, hul', by omega, x2, u2, o2.1, fun b ⟨o, l, c, e⟩ => by (have := (o2.2 b o l c e).1; omega), ?_⟩)
   rw [c0]
  rw [if_neg c0] at hfol
  have cb : ((j : Int) != 254) = true := by simpa using c0
  have l2 := b2.ld 2 v rfl
  have ldn := b2.ldn 3 rfl
  have hs2 := Secs.ext x2 hs
  have hv2 := hs2.len
  by_cases c1 : (j : Int) < 10
  ·rw [if_pos (.inl c1)] at hfol
   simp only [zZ, zY, ybq, q_b, q_d, q_f, q_i, q_j, q_l, q_u, q_B, q_U, q_W, q_Z, v_ld, v_st, qb_a, qb_d, pBs1, qb_o, ev, qb_p, qb_q, qb_v, xbin, ibin, if_true, if_false, Nat.reduceEqDiff, Nat.reduceLT, cb, c1, decide_true]
   exact hRR _ _ _ (.inr ⟨rfl, 3, hfol.symm, by decide, x2, rfl⟩)
  by_cases c2 : (j : Int) >= (L.length : Int)
  ·rw [if_pos (.inr (.inl c2))] at hfol
   simp only [zZ, zY, ybq, q_b, q_d, q_f, q_i, q_j, q_l, q_t, q_u, q_B, q_U, q_W, q_X, q_Z, v_ld, v_st, qb_a, qb_d, pBs1, qb_h, qb_o, ev, qb_p, qb_q, qb_v, xbin, ibin, if_true, if_false, Nat.reduceEqDiff, Nat.reduceLT, cb, c1, c2, decide_true, decide_false, fldAk, l2, hv2]
   exact hRR _ _ _ (.inr ⟨rfl, 3, hfol.symm, by decide, x2, rfl⟩)
  simp only [zZ, zY, ybq, q_b, q_d, q_j, q_t, q_B, q_U, q_W, q_X, q_Z, v_ld, v_st, qb_a, qb_d, pBs1, qb_h, qb_o, ev, qb_p, qb_q, qb_v, xbin, ibin, if_true, if_false, Nat.reduceEqDiff, Nat.reduceLT, cb, c1, c2, decide_false, fldAk, l2, hv2, ldn]
  refine yeZ T S v L j H2 _ hs2 h8 (by omega) (by omega) ?_
  intro H3 x3
  have x03 := x2.trans x3
  have b3 := b2.ext x3
  have u3 : OwnU H0.n H3 u us' := Own.ext x3 u2
  have o3 : OwnI H1.n H3 vo out := Own.ext x3 o2
  by_cases c3 : tb L j = 255
  ·rw [if_pos (.inr (.inr c3))] at hfol
   have cb3 : (tb L j == 255) = true := by simpa using c3
   simp only [zZ, zY, q_f, q_i, q_l, q_B, ev, if_true, if_false, Nat.reduceEqDiff, Nat.reduceLT, cb3]
   exact hRR _ _ _ (.inr ⟨rfl, 3, hfol.symm, by decide, x03, rfl⟩)
  rw [if_neg (by rintro (h | h | h); exact c1 h; exact c2 h; exact c3 h)] at hfol
  have cb3 : (tb L j == 255) = false := by simpa using c3
  have hju : j < us'.length := by omega
  have iu := yau u3.1 .i64 (j : Int) j rfl hju
  have hgu : us'[j]? = some (us'.getD j false) := by rw [List.getD_eq_getElem?_getD, List.getElem?_eq_getElem hju]; rfl
  have du := yaV u3.1 j (.bool (us'.getD j false)) (by rw [List.getElem?_map, hgu]; rfl)
  cases c4 : us'.getD j false with
  | true =>
   rw [c4, if_pos rfl] at hfol
   rw [c4] at du
   simp only [zZ, zY, q_d, q_f, q_i, q_l, q_B, q_C, ev, if_true, if_false, Nat.reduceEqDiff, Nat.reduceLT, cb3, iu, du]
   exact hRR _ _ _ (.inr ⟨rfl, 10, hfol.symm, by decide, x03, rfl⟩)
  | false =>
   rw [c4, if_neg (by simp)] at hfol
   rw [c4] at du
   simp only [zZ, zY, q_d, q_C, ev, if_true, if_false, Nat.reduceEqDiff, Nat.reduceLT, cb3, iu, du]
   have x4 := yab H3 ⟨[.int .i64 (j : Int)], 1, false, false⟩
   have n4 : (H3.push ⟨[.int .i64 (j : Int)], 1, false, false⟩).n = H3.n + 1 := rfl
   have o4 : OwnI H1.n (H3.push ⟨[.int .i64 (j : Int)], 1, false, false⟩) vo out := Own.ext x4 o3
   have u4 : OwnU H0.n (H3.push ⟨[.int .i64 (j : Int)], 1, false, false⟩) u us' := Own.ext x4 u3
   have b4 := b3.ext x4
   have nn2 := x3.1
   have n13 : H1.n <= H3.n := by
    have := b3.2
    omega
   refine yc4 o4 (by omega) (Sl.pushed H3 [.int .i64 (j : Int)] 1 1 false false rfl) rfl (by decide) (by decide) (by omega) ?_
   intro vo' H5 o5 s5
   have hvo : ∀ c, inB vo c -> H1.n <= c := fun c ⟨o, l, k, e⟩ => (o4.2 c o l k e).1
   have u5 : OwnU H0.n H5 u us' := Own.same u4 s5.n fun c hc => s5.get c (by have := (hub c hc).2; omega) fun h => by have := hvo c h; have := (hub c hc).2; omega
   have x5 : HExt H0 H5 := (x03.trans x4).trans' s5.n fun c hc => s5.get c (by have := x03.1; omega) fun h => by have := hvo c h; have := x01.1; omega
   have b5 := b4.same s5.n (s5.get H.n (by have := b4.2; omega) fun h => by have := hvo _ h; omega)
   have iu5 := yau u5.1 .i64 (j : Int) j rfl hju
   simp only [q_q, iu5]
   refine OwnU.flip (k := j) u5 hju ?_
   intro H6 u6 s6
   have x6 : HExt H0 H6 := x5.trans' s6.n fun c hc => s6.get c (by have := x5.1; omega) fun h => by have := (hub c h).1; omega
   have b6 := b5.same s6.n (s6.get H.n b5.2 fun h => by have := (hub _ h).2; omega)
   have o6 : OwnI H1.n H6 vo' (out ++ [(j : Int)]) := by
    have : OwnI H1.n H5 vo' (out ++ [(j : Int)]) := by
     unfold OwnI
     simpa using o5
    exact Own.same this s6.n fun c hc => s6.get c (Sl.lt this.1 hc) fun h => by
     have h1 := (hub c h).2
     rcases s5.new c hc with h2 | h2
     ·have := hvo c h2; omega
     ·omega
   have ldn6 := b6.ldn 3 rfl
   simp only [q_q, ldn6]
   refine yeZ T S v L j H6 _ (Secs.ext x6 hs) h8 (by omega) (by omega) ?_
   intro H7 x7
   have ht := tb_b L j h8
   refine hJ _ _ ⟨tb L j, us'.set j true, out ++ [(j : Int)], vo', ht.1, ht.2, by simp [hol], ?_, by simpa using hul', by omega, ?_, x6.trans x7, b6.ext x7, Own.ext x7 u6, Own.ext x7 o6, rfl⟩
   ·rw [ypm us' j hju c4]; omega
   ·rw [show L.length + 2 - (k + 1) = L.length + 1 - k by omega]; exact hfol
 ·rintro e fr H2 _ (⟨rfl, us', out, vo, rfl, hul', hol, x2, u2, o2, hfr, rfl⟩ | ⟨rfl, er, rfl, her, x2, rfl⟩)
  ·have lo := yct o2
   have w1 := wrI (sz + 128) (by omega) (by omega)
   have w2 : IntKind.i64.wrap (sz + 128 - 1) = sz + 127 := by rw [wrI _ (by omega) (by omega)]; omega
   have w3 : IntKind.i64.wrap ((sz + 127).tdiv 128) = (sz + 127) / 128 := by rw [Int.tdiv_eq_ediv_of_nonneg (by omega), wrI _ (by omega) (by omega)]
   have n128 : ¬ ((128 : Int) = 0) := by decide
   simp only [folE] at hfs
   by_cases c : (out.length : Int) = (sz + 127) / 128
   ·rw [if_neg (by simpa using c)] at hfs
    have cb : ((out.length : Int) != (sz + 127) / 128) = false := by simpa using c
    subst hTT
    simp only [zZ, zY, q_d, q_f, q_h, q_k, q_m, q_C, q_W, q_X, ev, xbin, ibin, qb_A, qb_B, qb_C, resV, qb_D, if_true, if_false, Nat.reduceEqDiff, Nat.reduceLT, lo, w1, w2, n128, w3, cb]
    exact hq2 out us' hfs H2 vo x2 u2 o2 hfr hul'
   ·rw [if_pos c] at hfs
    have cb : ((out.length : Int) != (sz + 127) / 128) = true := by simpa using c
    subst hTT
    simp only [zZ, zY, q_f, q_h, q_i, q_k, q_m, q_B, q_W, q_X, ev, xbin, ibin, qb_A, qb_B, qb_C, resV, qb_D, if_true, if_false, Nat.reduceEqDiff, Nat.reduceLT, lo, w1, w2, n128, w3, cb]
    exact hq1 12 hfs (by decide) H2 x2
  ·simp only [folE] at hfs
   simp only [q_i, q_l, q_m, qb_r, zB, zC, qb_A, qb_B, qb_C, resV, qb_D, if_true, if_false, Nat.reduceEqDiff]
   exact hq1 er hfs her H2 x2
 ·rintro fr H2 ⟨i, us', out, vo, hi0, hi1, hol, hcnt, hul', _⟩
  have hcl := List.count_le_length (a := true) (l := us')
  omega
def useP (L : List (List Int)) : List (List Int) -> List Bool -> Int ⊕ List Bool
 | [], us => .inr us
 | b :: r, us => if b.getD 0 0 = 0 then useP L r us else
  match folS L b us with
  | .inl e => .inl e
  | .inr p => useP L r p.2
def slots (L : List (List Int)) : List (List Int) := (List.range 32).map (slt L)
def leftB (L : List (List Int)) (us : List Bool) (i : Nat) : Bool := !(us.getD i false) && tb L i != 255
def checkP (L : List (List Int)) : Int := if formP L ≠ 0 then formP L else
 match useP L (slots L) (List.replicate L.length false) with
 | .inl e => e
 | .inr us => if ((List.range L.length).drop 10).any (leftB L us) then 7 else 0
theorem yje (L : List (List Int)) (b : List Int) (r : List (List Int)) (us : List Bool) (h : b.getD 0 0 = 0) : useP L (b :: r) us = useP L r us := by
 show (if b.getD 0 0 = 0 then _ else _) = _
 rw [if_pos h]
theorem ym7 (L : List (List Int)) (b : List Int) (r : List (List Int)) (us : List Bool) (h : ¬ b.getD 0 0 = 0) (e : Int) (hf : folS L b us = .inl e) : useP L (b :: r) us = .inl e := by
 show (if b.getD 0 0 = 0 then useP L r us else match folS L b us with | .inl e => .inl e | .inr p => useP L r p.2) = _
 rw [if_neg h, hf]
theorem ykv (L : List (List Int)) (b : List Int) (r : List (List Int)) (us : List Bool) (h : ¬ b.getD 0 0 = 0) (p : List Int × List Bool) (hf : folS L b us = .inr p) : useP L (b :: r) us = useP L r p.2 := by
 show (if b.getD 0 0 = 0 then useP L r us else match folS L b us with | .inl e => .inl e | .inr p => useP L r p.2) = _
 rw [if_neg h, hf]
theorem yel (n : Nat) : rep n [Value.bool false] = (List.replicate n false).map Value.bool := by rw [ydL]; simp
set_option maxHeartbeats 4000000 in
theorem yi2 (T S : Int) (v : Value) (L : List (List Int)) (H : AH) (Q : Value -> AH -> Prop) (hs : Secs H v L) (h8 : ∀ l ∈ L, SecOk l) (hT : 1 <= T) (hT2 : T <= 20) (hS : 1 <= S) (hS2 : S <= 12) (hLL : (L.length : Int) = T * S) (hN : 10 < L.length) (hN2 : L.length <= 240)
  (hq : ∀ H', HExt H H' -> Q (.int .i64 (checkP L)) H') : Got (xc Tryz.prog tab 63 [.agg #[.int .i64 T, .int .i64 S, v]] H) Q := by
 refine yac (res := [.tmp 2]) rfl ?_
 have vA : vcells (.agg #[.int .i64 T, .int .i64 S, v]) = [.int .i64 T, .int .i64 S, v] := rfl
 have b := Bx.new H [.int .i64 T, .int .i64 S, v]
 have x := yab H ⟨[.int .i64 T, .int .i64 S, v], 1, false, false⟩
 generalize hTT : ((.seq (.seq (.ops (⟨some 10, _, _⟩ :: _) _) _) _) : XCode) = TT
 simp only [zZ, zY, ofArgs, qb_j, ev, if_true, if_false, reduceCtorEq, Nat.reduceEqDiff, Nat.reduceLT, vA]
 generalize H.push ⟨[.int .i64 T, .int .i64 S, v], 1, false, false⟩ = H1 at *
 have ldn := b.ldn 3 rfl
 subst hTT
 generalize hTT : ((.seq (.ops (⟨some 15, _, _⟩ :: _) _) _) : XCode) = TT
 simp only [zZ, zY, q_U, q_W, v_ld, ev, qb_p, qb_q, xbin, ibin, if_true, if_false, Nat.reduceEqDiff, Nat.reduceLT, ldn]
 refine yo8 T S v L H1 _ (Secs.ext x hs) h8 hT hT2 hS hS2 hLL hN2 ?_
 intro H2 x2
 have b2 := b.ext x2
 have x12 := x.trans x2
 unfold checkP at hq
 by_cases c0 : formP L = 0
 case neg =>
  rw [if_pos c0] at hq
  have cb : (formP L != 0) = true := by simpa using c0
  simp only [zZ, zY, q_f, q_i, q_m, q_B, ev, qb_A, qb_B, qb_C, resV, qb_D, if_true, if_false, Nat.reduceEqDiff, Nat.reduceLT, cb]
  exact hq H2 x12
 rw [if_neg (by simpa using c0)] at hq
 rw [c0]
 have l2 := b2.ld 2 v rfl
 have hs2 := Secs.ext x12 hs
 have hv2 := hs2.len
 have hmk := ydQ (.bool false) L.length (by omega) .i64 H2 (L.length : Int) rfl
 have x3 := yab H2 ⟨rep L.length [.bool false], 1, false, false⟩
 subst hTT
 generalize hTT : ((.seq (.seq (.ops (⟨some 9, _, _⟩ :: []) _) _) _) : XCode) = TT
 simp only [zZ, zY, q_b, q_d, q_C, q_X, v_ld, qb_h, qb_k, ev, if_true, if_false, Nat.reduceEqDiff, Nat.reduceLT, bne_self_eq_false, fldAk, l2, hv2, hmk]
 have u3 : OwnU H2.n (H2.push ⟨rep L.length [.bool false], 1, false, false⟩) (.slice (some ⟨H2.n, 0, none⟩) L.length L.length) (List.replicate L.length false) := by
  have := Own.pushed H2 (rep L.length [.bool false]) 1 L.length false (by rw [yaB]; rfl)
  unfold OwnU
  rw [yel] at this
  simpa [yel] using this
 generalize H2.push ⟨rep L.length [.bool false], 1, false, false⟩ = H3 at *
 generalize Value.slice (some ⟨H2.n, 0, none⟩) L.length L.length = u at *
 generalize hR : useP L (slots L) (List.replicate L.length false) = R at hq
 refine ybo (fun k fr H' => ∃ us, HExt H2 H' /\ OwnU H2.n H' u us /\ us.length = L.length /\ useP L ((slots L).drop k) us = R /\ fr = [(1, .pointer (some ⟨H.n, 0, none⟩)), (4, u), (19, .int .i64 (k : Int))]) (fun e fr H' => e = .ret /\ ∃ er, HExt H2 H' /\ R = .inl er /\ fr = [(2, .int .i64 er)]) 32 ⟨_, x3, u3, by simp, hR, rfl⟩ ?_ ?_ (fun _ _ h => by cases h.1) ?_
 ·rintro k hk fr H4 ⟨us, x4, u4, hul, huse, rfl⟩ J hJ hRR
  have ldn := (b2.ext x4).ldn 3 rfl
  have hlt : (k : Int) < 32 := by omega
  have w3 := wrS k (by omega)
  unfold slots at huse
  rw [yem 32 k _ hk] at huse
  have hkL : 2 + k / 4 < L.length := by omega
  have hlen := yeA L k h8 hkL
  have hb8 := yjk L k h8 hkL
  simp only [zZ, zY, ycP, q_b, q_d, q_B, q_U, q_W, q_Z, v_ld, ev, qb_p, qb_q, xbin, ibin, if_true, if_false, Nat.reduceEqDiff, Nat.reduceLT, hlt, decide_true, ldn]
  refine ykH T S v L k H2 H4 x4 _ hs2 h8 hkL (by omega) ?_
  intro H5 s x5 hb
  have x45 := x4.trans x5
  have u5 : OwnU H2.n H5 u us := Own.ext x5 u4
  have hb5 : Byts H5 s (slt L k) := Sl.ext x45 hb
  have e1 := yam hb5 0 0 rfl (by omega)
  have e2 := yaJ hb5 0 _ (ya6 (slt L k) 0 (by omega))
  have ldn5 := (b2.ext x45).ldn 3 rfl
  by_cases cz : (slt L k).getD 0 0 = 0
  ·have cb : ((slt L k).getD 0 0 != 0) = false := by simpa using cz
   rw [yje _ _ _ _ cz] at huse
   simp only [zZ, zY, q_d, q_j, q_C, ev, if_true, if_false, Nat.reduceEqDiff, Nat.reduceLT, e1, e2, cb, w3]
   exact hJ _ _ ⟨us, x45, u5, hul, huse, rfl⟩
  ·have cb : ((slt L k).getD 0 0 != 0) = true := by simpa using cz
   simp only [zZ, zY, q_B, q_U, q_W, q_Y, v_ld, ev, qb_p, qb_q, xbin, ibin, if_true, if_false, Nat.reduceEqDiff, Nat.reduceLT, e1, e2, cb, ldn5]
   refine yjG T S v s u L (slt L k) us H2 H5 _ x45 hs2 h8 hN hN2 hb hlen hb8 u5 hul ?_ ?_
   ·intro e he hne H6 x6
    rw [ym7 _ _ _ _ cz e he] at huse
    have cb6 : (e != 0) = true := by simpa using hne
    simp only [zZ, zY, q_f, q_i, q_l, q_B, q_P, q_Q, ev, if_true, if_false, Nat.reduceEqDiff, Nat.reduceLT, cb6]
    exact hRR _ _ _ ⟨rfl, e, x6, huse.symm, rfl⟩
   ·intro out us' he H6 vo x6 u6 _ _ hul'
    rw [ykv _ _ _ _ cz _ he] at huse
    simp only [zZ, zY, q_d, q_j, q_C, q_P, q_Q, ev, if_true, if_false, Nat.reduceEqDiff, Nat.reduceLT, bne_self_eq_false, w3]
    exact hJ _ _ ⟨us', x6, u6, hul', huse, rfl⟩
 ·rintro e fr H4 _ ⟨rfl, er, x4, rfl, rfl⟩
  simp only at hq
  simp only [q_i, q_l, q_m, qb_r, zB, zC, qb_A, qb_B, qb_C, resV, qb_D, if_true]
  exact hq H4 (x12.trans x4)
 ·rintro fr H4 ⟨us, x4, u4, hul, huse, rfl⟩
  have hn : ((32 : Nat) : Int) = 32 := rfl
  rw [List.drop_eq_nil_of_le (by simp [slots])] at huse
  have huse' : R = .inr us := huse.symm
  subst huse'
  simp only at hq
  subst hTT
  generalize hTT : ((.seq (.ops (⟨some 2, _, _⟩ :: []) _) _) : XCode) = TT
  simp only [zZ, zY, hn, ycP, q_b, q_e, q_h, q_k, q_C, q_U, q_W, q_Z, v_ld, ev, qb_p, qb_q, xbin, ibin, if_true, if_false, Nat.reduceEqDiff, Nat.reduceLT, Int.lt_irrefl, decide_false]
  refine ybo (fun k fr H' => HExt H2 H' /\ OwnU H2.n H' u us /\ (((List.range (10 + k)).drop 10).any (leftB L us)) = false /\ fr = [(1, .pointer (some ⟨H.n, 0, none⟩)), (4, u), (9, .int .i64 ((10 + k : Nat) : Int))]) (fun e fr H' => e = .ret /\ HExt H2 H' /\ ((List.range L.length).drop 10).any (leftB L us) = true /\ fr = [(2, .int .i64 7)]) (L.length - 10) ⟨x4, u4, rfl, rfl⟩ ?_ ?_ (fun _ _ h => by cases h.1) ?_
  ·rintro k hk fr H5 ⟨x5, u5, hall, rfl⟩ J hJ hRR
   generalize hj : 10 + k = j at *
   have hlt : (j : Int) < (L.length : Int) := by omega
   have b5 := b2.ext x5
   have l5 := b5.ld 2 v rfl
   have ldn5 := b5.ldn 3 rfl
   have hs5 := Secs.ext x5 hs2
   have hv5 := hs5.len
   have w3 := wrS j (by omega)
   have hju : j < us.length := by omega
   have iu := yau u5.1 .i64 (j : Int) j rfl hju
   have hgu : us[j]? = some (us.getD j false) := by rw [List.getD_eq_getElem?_getD, List.getElem?_eq_getElem hju]; rfl
   have du := yaV u5.1 j (.bool (us.getD j false)) (by rw [List.getElem?_map, hgu]; rfl)
   have step : (List.range (10 + (k + 1))).drop 10 = (List.range j).drop 10 ++ [j] := by
    rw [show 10 + (k + 1) = j + 1 by omega, List.range_succ, List.drop_append_of_le_length (by simp; omega)]
   have good : leftB L us j = false -> ((List.range (10 + (k + 1))).drop 10).any (leftB L us) = false := fun h => by
    rw [step, List.any_append, hall]; simp [h]
   have bad : leftB L us j = true -> ((List.range L.length).drop 10).any (leftB L us) = true := fun h => by
    rw [List.any_eq_true]
    refine ⟨j, ?_, h⟩
    rw [List.mem_iff_getElem?]
    exact ⟨k, by rw [List.getElem?_drop, hj, List.getElem?_range (by omega)]⟩
   cases c4 : us.getD j false with
   | true =>
    rw [c4] at du
    simp only [zZ, zY, yb7, q_b, q_d, q_j, q_s, q_B, q_C, q_E, q_J, zE, q_W, q_X, q_Z, v_ld, qb_h, qb_o, ev, xbin, ibin, if_true, if_false, Nat.reduceEqDiff, Nat.reduceLT, fldAk, l5, hv5, hlt, decide_true, iu, du, w3]
    exact hJ _ _ ⟨x5, u5, good (by unfold leftB; rw [c4]; rfl), by rw [show 10 + (k + 1) = j + 1 by omega]⟩
   | false =>
    rw [c4] at du
    simp only [zZ, zY, yb7, q_b, q_d, q_r, q_B, q_E, q_J, zD, q_U, q_W, q_X, q_Z, v_ld, qb_h, qb_o, ev, qb_p, qb_q, xbin, ibin, if_true, if_false, Nat.reduceEqDiff, Nat.reduceLT, fldAk, l5, hv5, hlt, decide_true, iu, du, ldn5]
    refine yeZ T S v L j H5 _ hs5 h8 (by omega) (by omega) ?_
    intro H6 x6
    cases c5 : (tb L j != 255) with
    | true =>
     simp only [zZ, zY, q_f, q_i, q_l, q_B, ev, if_true, if_false, Nat.reduceEqDiff, Nat.reduceLT, c5]
     exact hRR _ _ _ ⟨rfl, x5.trans x6, bad (by unfold leftB; rw [c4, c5]; rfl), rfl⟩
    | false =>
     simp only [zZ, zY, q_d, q_j, q_C, ev, if_true, if_false, Nat.reduceEqDiff, Nat.reduceLT, c5, w3]
     exact hJ _ _ ⟨x5.trans x6, Own.ext x6 u5, good (by unfold leftB; rw [c5]; simp), by rw [show 10 + (k + 1) = j + 1 by omega]⟩
  ·rintro e fr H5 _ ⟨rfl, x5, hg, rfl⟩
   rw [if_pos hg] at hq
   simp only [q_i, q_l, q_m, qb_r, zB, zC, qb_A, qb_B, qb_C, resV, qb_D, if_true]
   exact hq H5 (x12.trans x5)
  ·rintro fr H5 ⟨x5, u5, hall, rfl⟩
   have hj : 10 + (L.length - 10) = L.length := by omega
   rw [hj] at hall ⊢
   rw [hall, if_neg (by simp)] at hq
   have b5 := b2.ext x5
   have l5 := b5.ld 2 v rfl
   have hv5 := (Secs.ext x5 hs2).len
   subst hTT
   simp only [zZ, zY, yb7, q_b, q_e, q_f, q_h, q_k, q_m, q_C, q_J, q_W, q_X, q_Z, v_ld, qb_h, ev, xbin, ibin, qb_A, qb_B, qb_C, resV, qb_D, if_true, if_false, Nat.reduceEqDiff, Nat.reduceLT, fldAk, l5, hv5, Int.lt_irrefl, decide_false]
   exact hq H5 (x12.trans x5)
def findP (s : List Int) : List (List Int) -> Nat -> Int
 | [], _ => -1
 | b :: r, i => if b.getD 0 0 ≠ 0 /\ nameB b = s then (i : Int) else findP s r (i + 1)
set_option maxHeartbeats 4000000 in
theorem ymB (T S : Int) (v : Value) (L : List (List Int)) (s : List Int) (hs8 : B8 s) (H : AH) (Q : Value -> AH -> Prop) (hs : Secs H v L) (h8 : ∀ l ∈ L, SecOk l) (hN : 10 < L.length)
  (hq : ∀ H', HExt H H' -> Q (.int .i64 (findP s (slots L) 0)) H') : Got (xc Tryz.prog tab 96 [.agg #[.int .i64 T, .int .i64 S, v], .string (sB s)] H) Q := by
 refine yac (res := [.tmp 4]) rfl ?_
 have vA : vcells (.agg #[.int .i64 T, .int .i64 S, v]) = [.int .i64 T, .int .i64 S, v] := rfl
 have b := Bx.new H [.int .i64 T, .int .i64 S, v]
 have x := yab H ⟨[.int .i64 T, .int .i64 S, v], 1, false, false⟩
 simp only [zZ, zY, ofArgs, q_b, q_f, q_m, qb_j, ev, qb_A, qb_B, qb_C, if_true, if_false, reduceCtorEq, Nat.reduceEqDiff, Nat.reduceLT, Nat.zero_add, vA]
 generalize H.push ⟨[.int .i64 T, .int .i64 S, v], 1, false, false⟩ = H1 at *
 have hs1 := Secs.ext x hs
 generalize hG : findP s (slots L) 0 = G at hq
 refine ybo (fun k fr H' => HExt H1 H' /\ findP s ((slots L).drop k) k = G /\ fr = [(1, .string (sB s)), (2, .pointer (some ⟨H.n, 0, none⟩)), (7, .int .i64 (k : Int))]) (fun e fr H' => e = .ret /\ HExt H1 H' /\ fr = [(4, .int .i64 G)]) 32 ⟨HExt.refl H1, hG, rfl⟩ ?_ ?_ (fun _ _ h => by cases h.1) ?_
 ·rintro k hk fr H2 ⟨x2, hf, rfl⟩ J hJ hR
  have ldn := (b.ext x2).ldn 3 rfl
  have hlt : (k : Int) < 32 := by omega
  have w3 := wrS k (by omega)
  unfold slots at hf
  rw [yem 32 k _ hk] at hf
  have hkL : 2 + k / 4 < L.length := by omega
  have hlen := yeA L k h8 hkL
  have hb8 := yjk L k h8 hkL
  simp only [zZ, zY, ydo, q_b, q_d, q_B, q_U, q_W, q_Z, v_ld, ev, qb_p, qb_q, xbin, ibin, if_true, if_false, Nat.reduceEqDiff, Nat.reduceLT, hlt, decide_true, ldn]
  refine yfh T S v L k H2 _ (Secs.ext x2 hs1) h8 hkL (by omega) ?_
  intro H3 w x3 hb
  have e1 := yam hb 0 0 rfl (by omega)
  have e2 := yaJ hb 0 _ (ya6 (slt L k) 0 (by omega))
  have nm := yiN (slt L k) hb8 (by omega) (by omega) w H3 hb
  have se := sbe (yiO hb8) hs8
  simp only [findP] at hf
  by_cases cz : (slt L k).getD 0 0 = 0
  ·have cb : ((slt L k).getD 0 0 != 0) = false := by simpa using cz
   rw [if_neg (fun h => h.1 cz)] at hf
   simp only [zZ, zY, q_d, q_j, q_s, q_C, qb_o, ev, if_true, if_false, Nat.reduceEqDiff, Nat.reduceLT, e1, e2, cb, w3]
   exact hJ _ _ ⟨x2.trans x3, hf, rfl⟩
  ·have cb : ((slt L k).getD 0 0 != 0) = true := by simpa using cz
   by_cases cn : nameB (slt L k) = s
   ·rw [if_pos ⟨cz, cn⟩] at hf
    rw [decide_eq_true cn] at se
    simp only [zZ, zY, q_f, q_i, q_l, q_r, q_B, q_U, q_W, qb_o, ev, qb_p, qb_q, xbin, ibin, if_true, if_false, Nat.reduceEqDiff, Nat.reduceLT, e1, e2, cb, nm, se]
    exact hR _ _ _ ⟨rfl, x2.trans x3, by rw [<- hf]⟩
   ·rw [if_neg (fun h => cn h.2)] at hf
    rw [decide_eq_false cn] at se
    simp only [zZ, zY, q_d, q_j, q_r, q_C, q_U, q_W, qb_o, ev, qb_p, qb_q, xbin, ibin, if_true, if_false, Nat.reduceEqDiff, Nat.reduceLT, e1, e2, cb, nm, se, w3]
    exact hJ _ _ ⟨x2.trans x3, hf, rfl⟩
 ·rintro e fr H2 _ ⟨rfl, x2, rfl⟩
  simp only [q_i, q_l, q_m, qb_r, zB, zC, qb_A, qb_B, qb_C, resV, qb_D, if_true]
  exact hq H2 (x.trans x2)
 ·rintro fr H2 ⟨x2, hf, rfl⟩
  have hn : ((32 : Nat) : Int) = 32 := rfl
  rw [List.drop_eq_nil_of_le (by simp [slots])] at hf
  have hf' : G = -1 := hf.symm
  subst hf'
  simp only [zZ, zY, hn, ydo, q_b, q_e, q_h, q_k, q_C, q_U, q_W, q_Z, v_ld, ev, qb_p, qb_q, xbin, ibin, resV, qb_D, if_true, if_false, Nat.reduceEqDiff, Nat.reduceLT, Int.lt_irrefl, decide_false]
  exact hq H2 (x.trans x2)
def roomP (L : List (List Int)) : Nat := ((List.range L.length).drop 10).countP fun i => tb L i == 255
def readL (L : List (List Int)) (out : List Int) : List Int := out.flatMap fun i => L.getD i.toNat []
def readP (L : List (List Int)) (b : List Int) (out : List Int) : List Int := (readL L out).take (sizeB b).toNat
theorem ye4 (L : List (List Int)) (h8 : ∀ l ∈ L, SecOk l) (out : List Int) (h : ∀ i ∈ out, 0 <= i /\ i < (L.length : Int)) : (readL L out).length = 128 * out.length := by
 induction out with
 | nil => rfl
 | cons i out ih =>
  have hi := h i (by simp)
  have e : L.getD i.toNat [] = L[i.toNat]'(by omega) := yaa (List.getElem?_eq_getElem (by omega))
  have := (h8 _ (List.getElem_mem (by omega : i.toNat < L.length))).1
  show (L.getD i.toNat [] ++ readL L out).length = _
  rw [List.length_append, ih fun j hj => h j (by simp [hj]), e, this, List.length_cons]; omega
theorem veqD (T S : Int) (v : Value) (h : veq1 v v = true) : veq (.agg #[.int .i64 T, .int .i64 S, v]) (.agg #[.int .i64 T, .int .i64 S, v]) = true := by
 show veqL [.int .i64 T, .int .i64 S, v] [.int .i64 T, .int .i64 S, v] = true
 simp only [veqL, h, Bool.and_true]
 simp [Go.Det.veq1]
theorem Sl.veq1 {H : AH} {sz n : Nat} {v : Value} {cs : List Value} (h : Sl H sz v n cs) : veq1 v v = true := by
 obtain ⟨p, l, c, rfl⟩ : ∃ p l c, v = .slice p l c := by
  rcases h with ⟨rfl, _⟩ | ⟨B, o, rfl, _⟩ | ⟨B, o, c, blk, rfl, _⟩ <;> exact ⟨_, _, _, rfl⟩
 cases p <;> simp [Go.Det.veq1]
set_option maxHeartbeats 4000000 in
theorem yoK (T S : Int) (v b : Value) (L : List (List Int)) (bl : List Int) (out : List Int) (us' : List Bool) (H : AH) (Q : Value -> AH -> Prop) (hs : Secs H v L) (h8 : ∀ l ∈ L, SecOk l) (hN : 10 < L.length) (hN2 : L.length <= 240)
  (hb : Byts H b bl) (hbl : bl.length = 32) (hb8 : B8 bl) (hf : folS L bl (List.replicate L.length false) = .inr (out, us')) (hout : ∀ i ∈ out, 0 <= i /\ i < (L.length : Int)) (hol : out.length <= 1000) (hsz : (sizeB bl).toNat <= 128 * out.length)
  (hq : ∀ H' w, HExt H H' -> OwnB H.n H' w (readP L bl out) -> Q w H') : Got (xc Tryz.prog tab 67 [.agg #[.int .i64 T, .int .i64 S, v], b] H) Q := by
 refine yac (res := [.tmp 4]) rfl ?_
 have vA : vcells (.agg #[.int .i64 T, .int .i64 S, v]) = [.int .i64 T, .int .i64 S, v] := rfl
 have bE := Bx.new H [.int .i64 T, .int .i64 S, v]
 have x := yab H ⟨[.int .i64 T, .int .i64 S, v], 1, false, false⟩
 generalize hTT : ((.seq (.dops (.mk ⟨some 11, _, _⟩ _ _ _ :: _) _) _) : XCode) = TT
 simp only [zZ, zY, ofArgs, qb_j, ev, if_true, if_false, reduceCtorEq, Nat.reduceEqDiff, Nat.reduceLT, Nat.zero_add, vA]
 generalize H.push ⟨[.int .i64 T, .int .i64 S, v], 1, false, false⟩ = H1 at *
 have ldn := bE.ldn 3 rfl
 have l2 := bE.ld 2 v rfl
 have hs1 := Secs.ext x hs
 have hv1 := hs1.len
 have hb1 : Byts H1 b bl := Sl.ext x hb
 have hvv : veq (.agg #[.int .i64 T, .int .i64 S, v]) (.agg #[.int .i64 T, .int .i64 S, v]) = true := by
  obtain ⟨vs, h1, _⟩ := hs1
  exact veqD T S v (Sl.veq1 h1)
 have hmk := ydQ (.bool false) L.length (by omega) .i64 H1 (L.length : Int) rfl
 have x2 := yab H1 ⟨rep L.length [.bool false], 1, false, false⟩
 have u2 : OwnU H1.n (H1.push ⟨rep L.length [.bool false], 1, false, false⟩) (.slice (some ⟨H1.n, 0, none⟩) L.length L.length) (List.replicate L.length false) := by
  have := Own.pushed H1 (rep L.length [.bool false]) 1 L.length false (by rw [yaB]; rfl)
  unfold OwnU
  rw [yel] at this
  simpa [yel] using this
 have ldn2 := (bE.ext x2).ldn 3 rfl
 subst hTT
 generalize hTT : ((.seq (.ops (⟨some 7, _, _⟩ :: []) _) _) : XCode) = TT
 rw [q_a]
 refine ybQ _ _ _ _ _ ?_
 simp only [zZ, zY, q_U, q_X, q_Y, v_ld, qb_h, qb_k, ev, qb_p, qb_q, if_true, if_false, Nat.reduceEqDiff, Nat.reduceLT, Nat.zero_add, Nat.reduceAdd, and_true, qb_E, qb_F, hs0, hs2, hs3, qb_G, qb_H, qb_I, qb_J, qb_K, qb_L, qb_M, ldn, fldAk, l2, hv1, hmk]
 refine yjG T S v b _ L bl _ H1 _ _ x2 hs1 h8 hN hN2 hb1 hbl hb8 u2 (by simp) ?_ ?_
 ·intro e he
  rw [hf] at he; cases he
 ·intro out2 us2 he H3 vo x3 _ hvo _ _
  rw [hf] at he
  cases he
  have ldn3 := (bE.ext x3).ldn 3 rfl
  simp only [q_q, q_P, q_Q, true_and, ldn2, hvv]
  have lo := yct hvo
  subst hTT
  generalize hTT : ((.seq (.dops (.mk ⟨some 34, _, _⟩ _ _ _ :: _) _) _) : XCode) = TT
  simp only [zZ, zY, q_b, q_X, ev, if_true, if_false, Nat.reduceEqDiff, Nat.reduceLT, lo]
  refine yaz (fun k fr H' => ∃ w, HExt H3 H' /\ OwnB H3.n H' w (readL L (out.take k)) /\ fr = [(1, b), (2, .pointer (some ⟨H.n, 0, none⟩)), (7, w), (20, vo), (21, .int .i64 (out.length : Int)), (22, .int .i64 (k : Int))]) out.length ⟨_, HExt.refl H3, Own.nil _ _ _, rfl⟩ ?_ ?_
  ·rintro k hk fr H4 ⟨w, x4, ow, rfl⟩ J hJ
   obtain ⟨i, hi⟩ : ∃ i, out[k]? = some i := ⟨_, List.getElem?_eq_getElem hk⟩
   have hr := hout i (List.mem_of_getElem? hi)
   obtain ⟨j, rfl⟩ : ∃ j : Nat, i = (j : Int) := ⟨i.toNat, by omega⟩
   have hvo4 : Ints H4 vo out := Sl.ext x4 hvo
   have i1 := ydT hvo4 (k : Int) k rfl hk
   have i2 := yeH hvo4 k _ hi
   have b4 := (bE.ext x3).ext x4
   have l4 := b4.ld 2 v rfl
   have hs4 := Secs.ext x4 (Secs.ext x3 hs1)
   obtain ⟨e, e1, e2, e3⟩ := hs4.at (j : Int) j rfl (by omega)
   have hlt : (k : Int) < (out.length : Int) := by omega
   have w3 := wrS k (by omega)
   have hj8 := h8 _ (List.getElem_mem (by omega : j < L.length))
   have hrl := ye4 L h8 (out.take k) fun q hq => hout q (List.mem_of_mem_take hq)
   rw [List.length_take] at hrl
   simp only [zZ, zY, ydn, q_b, q_d, q_j, q_B, q_W, q_Z, v_ld, qb_a, qb_h, ev, xbin, ibin, if_true, if_false, Nat.reduceEqDiff, Nat.reduceLT, hlt, decide_true, i1, i2, fldAk, l4, e1, e2]
   refine appB ow x4.1 e3 (by rw [hrl, hj8.1]; omega) ?_
   intro w' H5 ow' st
   simp only [w3]
   refine hJ _ _ ⟨w', Keep.trans (n0 := H3.n) x4 (st.keep ow x4.1), ?_, rfl⟩
   have : readL L (out.take (k + 1)) = readL L (out.take k) ++ L[j]'(by omega) := by
    unfold readL
    rw [yal _ _ _ hi, List.flatMap_append, List.flatMap_singleton, Int.toNat_natCast, yaa (List.getElem?_eq_getElem (by omega : j < L.length))]
   rw [this]; exact ow'
  ·rintro fr H4 ⟨w, x4, ow, rfl⟩
   rw [List.take_length] at ow
   have x14 := x3.trans x4
   have hb4 : Byts H4 b bl := Sl.ext x14 hb1
   have i21 := yam hb4 21 21 rfl (by omega)
   have i22 := yam hb4 22 22 rfl (by omega)
   have d21 := yaJ hb4 21 _ (ya6 bl 21 (by omega))
   have d22 := yaJ hb4 22 _ (ya6 bl 22 (by omega))
   have r21 := yg9 bl hb8 21
   have r22 := yg9 bl hb8 22
   have c21 := fun H => ya5 .u8 (bl.getD 21 0) (by omega) (by omega) H
   have c22 := fun H => ya5 .u8 (bl.getD 22 0) (by omega) (by omega) H
   have s8 := shl8 (bl.getD 21 0) (by omega) (by omega)
   have ws : IntKind.i64.wrap (bl.getD 21 0 * 256 + bl.getD 22 0) = ((sizeB bl).toNat : Int) := by
    rw [wrI _ (by omega) (by omega)]
    have : 0 <= sizeB bl := by unfold sizeB; omega
    rw [Int.toNat_of_nonneg this]; rfl
   have n8 : ¬ ((8 : Int) < 0) := by decide
   have hrl := ye4 L h8 out hout
   obtain ⟨s', k1, k2, k3, k4⟩ := yey (lo := none) (hi := some (.int .i64 ((sizeB bl).toNat : Int))) (i := 0) (h := (sizeB bl).toNat) ow.1 rfl rfl (Nat.zero_le _) (by omega)
   have os : OwnB H3.n H4 s' (readP L bl out) := by
    have := k4 _ ow
    have hl : (readP L bl out).length = (sizeB bl).toNat := by unfold readP; rw [List.length_take]; omega
    unfold OwnB
    rw [hl]
    have e : (readP L bl out).map (Value.int .u8) = (((readL L out).map (Value.int .u8)).drop (0 * 1)).take (((sizeB bl).toNat - 0) * 1) := by
     rw [Nat.zero_mul, List.drop_zero, Nat.sub_zero, Nat.mul_one, <- List.map_take]; rfl
    rw [e]; exact this
   subst hTT
   simp only [zZ, zY, ydn, q_b, q_e, q_f, q_h, q_j, q_k, q_m, q_C, q_W, q_Z, v_ld, qb_a, qb_h, ev, xbin, ibin, qb_A, qb_B, qb_C, if_true, if_false, Nat.reduceEqDiff, Nat.reduceLT, Int.lt_irrefl, decide_false]
   refine yaL _ _ _ _ _ rfl ?_
   simp only [zZ, zY, q_L, q_M, q_N, q_O, Bool.false_and, zE, cond_false, q_S, q_T, q_W, q_Z, v_ld, qb_e, qb_f, ev, xbin, ibin, resV, qb_D, if_true, if_false, Nat.reduceEqDiff, Nat.reduceLT, i21, i22, d21, d22, c21, c22, n8, s8, ws, k1]
   exact hq H4 s' (x.trans x14) (Own.le os (by have := x.1; have := x3.1; omega))
structure FE where
 nm : List Int
 w : Value
 dt : List Int
def FLS : LS FE := ⟨2, fun p => [.string (sB p.nm), p.w], fun _ => rfl, by decide⟩
def FE.told (p : FE) : List Int × List Int := (p.nm, p.dt)
def Fils (H : AH) (v : Value) (l : List FE) : Prop := SL FLS H v l /\ (∀ p ∈ l, Byts H p.w p.dt) /\ ∀ p ∈ l, B8 p.nm /\ B8 p.dt
theorem Fils.ext {H H' : AH} {v : Value} {l : List FE} (h : Fils H v l) (x : HExt H H') : Fils H' v l := ⟨h.1.ext x, fun p hp => Sl.ext x (h.2.1 p hp), h.2.2⟩
structure OutE (n0 : Nat) (H : AH) (v : Value) (l : List FE) : Prop where
 own : OL FLS n0 H v l
 byt : ∀ p ∈ l, Byts H p.w p.dt
 dis : ∀ p ∈ l, ∀ b, inB p.w b -> ¬ inB v b
theorem OutE.nil (n0 : Nat) (H : AH) : OutE n0 H (.slice none 0 0) [] := ⟨OL.nil _ _ _, fun s h => by simp at h, fun s h => by simp at h⟩
theorem OutE.ext {n0 : Nat} {H H' : AH} {v : Value} {l : List FE} (h : OutE n0 H v l) (x : HExt H H') : OutE n0 H' v l := ⟨h.own.ext x, fun p hp => Sl.ext x (h.byt p hp), h.dis⟩
theorem rep_1 (zs : List Value) : rep 1 zs = zs := by simp [rep]
theorem OutE.push {n0 n1 : Nat} {H : AH} {v : Value} {l : List FE} (h : OutE n0 H v l) (hn : n0 <= H.n) (p : FE) (hb : Byts H p.w p.dt) (hw : ∀ b, inB p.w b -> ¬ inB v b) (hl : l.length <= 1000) {Q : Value -> AH -> Prop}
  (hq : ∀ v' H', OutE n0 H' v' (l ++ [p]) -> Keep n0 H H' -> Q v' H') :
  Got (xapp (H.push ⟨[.string (sB p.nm), p.w], 2, false, false⟩) 2 40 v (.slice (some ⟨H.n, 0, none⟩) 1 1)) Q := by
 obtain ⟨o1, o2⟩ := yan hb
 refine OL.push [p] h.own hn (by show ([.string (sB p.nm), p.w] : List Value).all one = true; simp only [List.all_cons, List.all_nil, o1, ybp]; rfl) 40 (by decide) (by simp; omega) ?_
 intro v' H' o k same fresh hnn
 have keep : ∀ q w, Byts H q w -> (∀ b, inB q b -> ¬ inB v b) -> Byts H' q w := fun q w hq hd => Sl.same hq hnn fun b hb => same b (hq.lt hb) (hd b hb)
 have dis' : ∀ q w, Byts H q w -> (∀ b, inB q b -> ¬ inB v b) -> ∀ b, inB q b -> ¬ inB v' b := fun q w hq hd b hb hv => by
  rcases fresh b hv with h1 | h1
  ·exact hd b hb h1
  ·have := hq.lt hb; omega
 refine hq v' H' ⟨o, fun q hq => ?_, fun q hq => ?_⟩ k
 ·rcases List.mem_append.1 hq with h1 | h1
  ·exact keep _ _ (h.byt q h1) (h.dis q h1)
  ·rw [List.mem_singleton.1 h1]; exact keep _ _ hb hw
 ·rcases List.mem_append.1 hq with h1 | h1
  ·exact dis' _ _ (h.byt q h1) (h.dis q h1)
  ·rw [List.mem_singleton.1 h1]; exact dis' _ _ hb hw
def GoodS (L : List (List Int)) (b : List Int) : Prop := ∃ out us', folS L b (List.replicate L.length false) = .inr (out, us') /\ (∀ i ∈ out, 0 <= i /\ i < (L.length : Int)) /\ out.length <= 1000 /\ (sizeB b).toNat <= 128 * out.length
def rdP (L : List (List Int)) (b : List Int) : List Int :=
 match folS L b (List.replicate L.length false) with
 | .inl _ => []
 | .inr p => readP L b p.1
def fileP (L : List (List Int)) (b : List Int) : List (List Int × List Int) := if b.getD 0 0 = 0 then [] else [(nameB b, rdP L b)]
def filesP (L : List (List Int)) : List (List Int × List Int) := (slots L).flatMap (fileP L)
theorem readGood (T S : Int) (v b : Value) (L : List (List Int)) (bl : List Int) (H : AH) (Q : Value -> AH -> Prop) (hs : Secs H v L) (h8 : ∀ l ∈ L, SecOk l) (hN : 10 < L.length) (hN2 : L.length <= 240)
  (hb : Byts H b bl) (hbl : bl.length = 32) (hb8 : B8 bl) (hg : GoodS L bl) (hq : ∀ H' w, HExt H H' -> OwnB H.n H' w (rdP L bl) -> Q w H') : Got (xc Tryz.prog tab 67 [.agg #[.int .i64 T, .int .i64 S, v], b] H) Q := by
 obtain ⟨out, us', h1, h2, h3, h4⟩ := hg
 refine yoK T S v b L bl out us' H Q hs h8 hN hN2 hb hbl hb8 h1 h2 h3 h4 ?_
 intro H' w x o
 refine hq H' w x ?_
 unfold rdP
 rw [h1]; exact o
theorem ypL (L : List (List Int)) (h8 : ∀ l ∈ L, SecOk l) (b : List Int) : B8 (rdP L b) := by
 unfold rdP
 cases folS L b (List.replicate L.length false) with
 | inl e => exact fun x h => by simp at h
 | inr p =>
  intro x hx
  have hx := List.mem_of_mem_take hx
  obtain ⟨i, _, hx⟩ := List.mem_flatMap.1 hx
  rcases Nat.lt_or_ge i.toNat L.length with h | h
  ·rw [yaa (List.getElem?_eq_getElem h)] at hx
   exact (h8 _ (List.getElem_mem h)).2 x hx
  ·rw [List.getD_eq_getElem?_getD, List.getElem?_eq_none h] at hx
   simp at hx
set_option maxHeartbeats 4000000 in
theorem ypu (T S : Int) (v : Value) (L : List (List Int)) (H : AH) (Q : Value -> AH -> Prop) (hs : Secs H v L) (h8 : ∀ l ∈ L, SecOk l) (hT : 1 <= T) (hT2 : T <= 20) (hS : 1 <= S) (hS2 : S <= 12) (hLL : (L.length : Int) = T * S) (hN : 10 < L.length) (hN2 : L.length <= 240)
  (hc : checkP L = 0) (hg : ∀ k, k < 32 -> (slt L k).getD 0 0 ≠ 0 -> GoodS L (slt L k)) (hq : ∀ H' vo l, HExt H H' -> Fils H' vo l -> l.map FE.told = filesP L -> Q (.tuple [vo, .int .i64 0].toArray) H') :
  Got (xc Tryz.prog tab 29 [.agg #[.int .i64 T, .int .i64 S, v]] H) Q := by
 refine yac (res := [.tmp 2, .tmp 3]) rfl ?_
 have vA : vcells (.agg #[.int .i64 T, .int .i64 S, v]) = [.int .i64 T, .int .i64 S, v] := rfl
 have b := Bx.new H [.int .i64 T, .int .i64 S, v]
 have x := yab H ⟨[.int .i64 T, .int .i64 S, v], 1, false, false⟩
 generalize hTT : ((.seq (.seq (.ops (⟨some 8, _, _⟩ :: _) _) _) _) : XCode) = TT
 simp only [zZ, zY, ofArgs, qb_j, ev, if_true, if_false, reduceCtorEq, Nat.reduceEqDiff, Nat.reduceLT, vA]
 generalize H.push ⟨[.int .i64 T, .int .i64 S, v], 1, false, false⟩ = H1 at *
 have ldn := b.ldn 3 rfl
 subst hTT
 generalize hTT : ((.seq (.ops (⟨some 5, _, _⟩ :: []) _) _) : XCode) = TT
 simp only [zZ, zY, q_U, q_W, v_ld, ev, qb_p, qb_q, xbin, ibin, if_true, if_false, Nat.reduceEqDiff, Nat.reduceLT, ldn]
 refine yi2 T S v L H1 _ (Secs.ext x hs) h8 hT hT2 hS hS2 hLL hN hN2 ?_
 intro H2 x2
 rw [hc]
 have b2 := b.ext x2
 have x12 := x.trans x2
 have hz2 := Secs.ext x12 hs
 have hvv : veq (.agg #[.int .i64 T, .int .i64 S, v]) (.agg #[.int .i64 T, .int .i64 S, v]) = true := by
  obtain ⟨vs, h1, _⟩ := hz2
  exact veqD T S v (Sl.veq1 h1)
 subst hTT
 simp only [zZ, zY, q_b, q_d, q_f, q_m, q_C, ev, qb_A, qb_B, qb_C, if_true, if_false, Nat.reduceEqDiff, Nat.reduceLT, bne_self_eq_false]
 refine yaz (fun k fr H' => ∃ vo l, HExt H2 H' /\ OutE H2.n H' vo l /\ (∀ p ∈ l, B8 p.nm /\ B8 p.dt) /\ l.map FE.told = ((slots L).take k).flatMap (fileP L) /\ l.length <= k /\ fr = [(1, .pointer (some ⟨H.n, 0, none⟩)), (5, vo), (13, .int .i64 (k : Int))]) 32 ⟨_, [], HExt.refl H2, OutE.nil _ _, fun p h => by simp at h, rfl, Nat.le_refl _, rfl⟩ ?_ ?_
 ·rintro k hk fr H3 ⟨vo, l, x3, oe, hl8, hm, hll, rfl⟩ J hJ
  have b3 := b2.ext x3
  have ldn3 := b3.ldn 3 rfl
  have hz3 := Secs.ext x3 hz2
  have hlt : (k : Int) < 32 := by omega
  have w3 := wrS k (by omega)
  have hkL : 2 + k / 4 < L.length := by omega
  have hlen := yeA L k h8 hkL
  have hb8 := yjk L k h8 hkL
  have hsk : (slots L)[k]? = some (slt L k) := by unfold slots; rw [List.getElem?_map, List.getElem?_range hk]; rfl
  have step : ((slots L).take (k + 1)).flatMap (fileP L) = ((slots L).take k).flatMap (fileP L) ++ fileP L (slt L k) := by
   rw [yal _ _ _ hsk, List.flatMap_append, List.flatMap_singleton]
  simp only [zZ, zY, ydp, q_b, q_d, q_B, q_U, q_W, q_Z, v_ld, ev, qb_p, qb_q, xbin, ibin, if_true, if_false, Nat.reduceEqDiff, Nat.reduceLT, hlt, decide_true, ldn3]
  refine yfh T S v L k H3 _ hz3 h8 hkL (by omega) ?_
  intro H4 s x4 hb
  have x34 := x3.trans x4
  have oe4 := oe.ext x4
  have e1 := yam hb 0 0 rfl (by omega)
  have e2 := yaJ hb 0 _ (ya6 (slt L k) 0 (by omega))
  by_cases cz : (slt L k).getD 0 0 = 0
  ·have cb : ((slt L k).getD 0 0 != 0) = false := by simpa using cz
   simp only [zZ, zY, q_d, q_j, q_C, ev, if_true, if_false, Nat.reduceEqDiff, Nat.reduceLT, e1, e2, cb, w3]
   refine hJ _ _ ⟨vo, l, x34, oe4, hl8, ?_, by omega, rfl⟩
   rw [step, hm]
   unfold fileP
   rw [if_pos cz]; simp
  ·have cb : ((slt L k).getD 0 0 != 0) = true := by simpa using cz
   have nm := yiN (slt L k) hb8 (by omega) (by omega) s H4 hb
   have ldn4 := (b3.ext x4).ldn 3 rfl
   simp only [q_q, q_B, ev, qb_r, zC, if_true, if_false, Nat.reduceEqDiff, e1, e2, cb]
   refine ybQ _ _ _ _ _ ?_
   simp only [zZ, zY, q_j, q_U, v_ld, qb_a, ev, qb_p, qb_q, if_true, if_false, reduceCtorEq, Nat.reduceEqDiff, Nat.reduceLT, Nat.zero_add, Nat.reduceAdd, and_true, qb_E, qb_F, hs0, hs1, hs2, hs3, qb_G, qb_H, qb_I, qb_J, qb_K, qb_L, qb_M, nm, ldn4]
   refine readGood T S v s L (slt L k) H4 _ (Secs.ext x4 hz3) h8 hN hN2 hb hlen hb8 (hg k hk cz) ?_
   intro H5 w x5 ow
   obtain ⟨o1, o2⟩ := yan ow.1
   have oe5 := oe4.ext x5
   have hall : ([.string (sB (nameB (slt L k))), w] : List Value).all one = true := by simp only [List.all_cons, List.all_nil, o1, ybp]; rfl
   simp only [q_q, ev, qb_r, zB, zC, if_true, if_false, Nat.reduceEqDiff, Nat.reduceLT, Nat.zero_add, Nat.reduceAdd, vb, vbs, qb_X, qb_Y, qb_Z, ybp, ygy, o1, o2, eq_self, List.length_cons, List.length_nil, List.set_cons_zero, List.set_cons_succ, List.map_cons, List.map_nil, Nat.zero_mul, rep_1]
   rw [ycY (n := 2) hall rfl rfl]
   have hwv : ∀ b, inB w b -> ¬ inB vo b := fun c hc hv => by
    have h1 : H4.n <= c := by obtain ⟨o, a, d, e⟩ := hc; exact (ow.2 c o a d e).1
    have h2 := oe4.own.1.lt hv
    omega
   simp only [q_q, zC]
   have h25 : H2.n <= H5.n := (x34.trans x5).1
   refine OutE.push (n1 := 0) oe5 h25 ⟨nameB (slt L k), w, rdP L (slt L k)⟩ ow.1 hwv (by omega) ?_
   intro vo' H6 oe6 k6
   have ldh := (b3.ext x4).ldn 3 rfl
   simp only [true_and, hvv, w3]
   refine hJ _ _ ⟨vo', l ++ [⟨nameB (slt L k), w, rdP L (slt L k)⟩], (x34.trans x5).trans' k6.1 (fun b hb => k6.2 b hb), oe6, ?_, ?_, by simp; omega, rfl⟩
   ·intro p hp
    rcases List.mem_append.1 hp with h | h
    ·exact hl8 p h
    ·rw [List.mem_singleton.1 h]; exact ⟨yiO hb8, ypL L h8 _⟩
   ·rw [step, List.map_append, hm]
    unfold fileP
    rw [if_neg cz]; rfl
 ·rintro fr H3 ⟨vo, l, x3, oe, hl8, hm, hll, rfl⟩
  have hn : ((32 : Nat) : Int) = 32 := rfl
  rw [List.take_of_length_le (by simp [slots])] at hm
  simp only [zZ, zY, hn, ydp, q_b, q_e, q_h, q_k, q_C, q_U, q_W, q_Z, v_ld, ev, qb_p, qb_q, xbin, ibin, resV, qb_D, if_true, if_false, Nat.reduceEqDiff, Nat.reduceLT, Int.lt_irrefl, decide_false]
  exact hq H3 vo l (x12.trans x3) ⟨oe.own.1, oe.byt, hl8⟩ hm
theorem yqm (T S : Int) (v : Value) (L : List (List Int)) (s : List Int) (hs8 : B8 s) (H : AH) (Q : Value -> AH -> Prop) (hs : Secs H v L) (h8 : ∀ l ∈ L, SecOk l) (hT : 1 <= T) (hT2 : T <= 20) (hS : 1 <= S) (hS2 : S <= 12) (hLL : (L.length : Int) = T * S) (hN : 10 < L.length) (hN2 : L.length <= 240)
  (hc : checkP L = 0) (hq1 : findP s (slots L) 0 = -1 -> ∀ H', HExt H H' -> Q (.tuple [.slice none 0 0, .int .i64 4].toArray) H')
  (hq2 : ∀ k : Nat, findP s (slots L) 0 = (k : Int) -> k < 32 /\ GoodS L (slt L k) /\ ∀ H' w, HExt H H' -> Byts H' w (rdP L (slt L k)) -> Q (.tuple [w, .int .i64 0].toArray) H') (hf : findP s (slots L) 0 = -1 \/ ∃ k : Nat, findP s (slots L) 0 = (k : Int)) :
  Got (xc Tryz.prog tab 64 [.agg #[.int .i64 T, .int .i64 S, v], .string (sB s)] H) Q := by
 refine yac (res := [.tmp 4, .tmp 5]) rfl ?_
 have vA : vcells (.agg #[.int .i64 T, .int .i64 S, v]) = [.int .i64 T, .int .i64 S, v] := rfl
 have b := Bx.new H [.int .i64 T, .int .i64 S, v]
 have x := yab H ⟨[.int .i64 T, .int .i64 S, v], 1, false, false⟩
 generalize hTT : ((.seq (.seq (.ops (⟨some 8, _, _⟩ :: _) _) _) _) : XCode) = TT
 simp only [zZ, zY, ofArgs, qb_j, ev, if_true, if_false, reduceCtorEq, Nat.reduceEqDiff, Nat.reduceLT, Nat.zero_add, vA]
 generalize H.push ⟨[.int .i64 T, .int .i64 S, v], 1, false, false⟩ = H1 at *
 have ldn := b.ldn 3 rfl
 subst hTT
 generalize hTT : ((.seq (.ops (⟨some 13, _, _⟩ :: _) _) _) : XCode) = TT
 simp only [zZ, zY, q_U, q_W, v_ld, ev, qb_p, qb_q, xbin, ibin, if_true, if_false, Nat.reduceEqDiff, Nat.reduceLT, ldn]
 refine yi2 T S v L H1 _ (Secs.ext x hs) h8 hT hT2 hS hS2 hLL hN hN2 ?_
 intro H2 x2
 rw [hc]
 have b2 := b.ext x2
 have x12 := x.trans x2
 have hz2 := Secs.ext x12 hs
 have ldn2 := b2.ldn 3 rfl
 have hvv : veq (.agg #[.int .i64 T, .int .i64 S, v]) (.agg #[.int .i64 T, .int .i64 S, v]) = true := by
  obtain ⟨vs, h1, _⟩ := hz2
  exact veqD T S v (Sl.veq1 h1)
 subst hTT
 generalize hTT : ((.seq (.seq (.ops (⟨some 16, _, _⟩ :: _) _) _) _) : XCode) = TT
 simp only [zZ, zY, q_d, q_C, q_U, v_ld, ev, qb_p, qb_q, if_true, if_false, Nat.reduceEqDiff, Nat.reduceLT, bne_self_eq_false, ldn2]
 refine ymB T S v L s hs8 H2 _ hz2 h8 hN ?_
 intro H3 x3
 have b3 := b2.ext x3
 have x13 := x12.trans x3
 have hz3 := Secs.ext x3 hz2
 have ldn3 := b3.ldn 3 rfl
 rcases hf with hf | ⟨k, hf⟩
 ·rw [hf]
  have c : (-1 : Int) < 0 := by decide
  subst hTT
  simp only [zZ, zY, q_f, q_i, q_m, q_B, q_W, ev, xbin, ibin, qb_A, qb_B, qb_C, resV, qb_D, if_true, if_false, Nat.reduceEqDiff, Nat.reduceLT, c, decide_true]
  exact hq1 hf H3 x13
 ·obtain ⟨hk, hgood, hq⟩ := hq2 k hf
  rw [hf]
  have c : ¬ (k : Int) < 0 := by omega
  have hkL : 2 + k / 4 < L.length := by omega
  subst hTT
  generalize hTT : ((.seq (.dops (.mk ⟨some 18, _, _⟩ _ _ _ :: _) _) _) : XCode) = TT
  simp only [zZ, zY, q_d, q_C, q_W, ev, xbin, ibin, if_true, if_false, Nat.reduceEqDiff, Nat.reduceLT, c, decide_false]
  subst hTT
  rw [q_a]
  refine ybQ _ _ _ _ _ ?_
  simp only [zZ, zY, q_f, q_m, q_U, v_ld, ev, qb_p, qb_q, qb_A, qb_B, qb_C, resV, qb_D, if_true, if_false, reduceCtorEq, Nat.reduceEqDiff, Nat.reduceLT, Nat.zero_add, Nat.reduceAdd, and_true, qb_E, qb_F, hs0, hs1, hs2, qb_G, qb_H, qb_I, qb_J, qb_K, qb_L, qb_M, ldn3]
  refine yfh T S v L k H3 _ hz3 h8 hkL (by omega) ?_
  intro H4 w x4 hb
  have ldn4 := (b3.ext x4).ldn 3 rfl
  refine readGood T S v w L (slt L k) H4 _ (Secs.ext x4 hz3) h8 hN hN2 hb (yeA L k h8 hkL) (yjk L k h8 hkL) hgood ?_
  intro H5 r x5 ow
  simp only [q_q, true_and, ldn4, hvv]
  exact hq H5 r (x13.trans (x4.trans x5)) ow.1
structure Dk (n0 k : Nat) (H : AH) (v : Value) (vs : List Value) (L : List (List Int)) : Prop where
 len : vs.length = L.length
 own : Own n0 1 H v L.length vs
 el : ∀ i x l, i < k -> vs[i]? = some x -> L[i]? = some l -> OwnB n0 H x l
 old : ∀ i x l, k <= i -> vs[i]? = some x -> L[i]? = some l -> Byts H x l /\ ∀ b, inB x b -> b < n0
 dis : ∀ i x, i < k -> vs[i]? = some x -> ∀ b, inB x b -> ¬ inB v b
 sep : ∀ i j x y, i < k -> j < k -> vs[i]? = some x -> vs[j]? = some y -> i ≠ j -> ∀ b, inB x b -> ¬ inB y b
variable {n0 k : Nat} {H : AH} {v : Value} {vs : List Value} {L : List (List Int)}
theorem Dk.byt (h : Dk n0 k H v vs L) (i : Nat) (x : Value) (l : List Int) (h1 : vs[i]? = some x) (h2 : L[i]? = some l) : Byts H x l := by
 rcases Nat.lt_or_ge i k with hi | hi
 ·exact (h.el i x l hi h1 h2).1
 ·exact (h.old i x l hi h1 h2).1
theorem Dk.get2 (h : Dk n0 k H v vs L) (i : Nat) (hi : i < L.length) : ∃ x, vs[i]? = some x /\ L[i]? = some (L[i]'hi) := ⟨vs[i]'(by rw [h.len]; exact hi), List.getElem?_eq_getElem _, List.getElem?_eq_getElem hi⟩
theorem Dk.secs (h : Dk n0 k H v vs L) : Secs H v L := by
 refine ⟨vs, h.own.1, fun i x hx => ?_⟩
 have hi : i < L.length := by have := (List.getElem?_eq_some_iff.1 hx).1; rw [<- h.len]; exact this
 exact ⟨L[i], List.getElem?_eq_getElem hi, h.byt i x _ hx (List.getElem?_eq_getElem hi)⟩
theorem Dk.lt (h : Dk n0 k H v vs L) (i : Nat) (x : Value) (hx : vs[i]? = some x) {b : Nat} (hb : inB x b) : b < H.n := by
 have hi : i < L.length := by have := (List.getElem?_eq_some_iff.1 hx).1; rw [<- h.len]; exact this
 exact (h.byt i x _ hx (List.getElem?_eq_getElem hi)).lt hb
theorem Dk.ge (h : Dk n0 k H v vs L) (i : Nat) (x : Value) (hi : i < k) (hx : vs[i]? = some x) {b : Nat} (hb : inB x b) : n0 <= b := by
 have hl : i < L.length := by have := (List.getElem?_eq_some_iff.1 hx).1; rw [<- h.len]; exact this
 obtain ⟨o, l, c, e⟩ := hb
 exact ((h.el i x _ hi hx (List.getElem?_eq_getElem hl)).2 b o l c e).1
theorem Own.geB {n0 sz n : Nat} {H : AH} {v : Value} {cs : List Value} (h : Own n0 sz H v n cs) {b : Nat} (hb : inB v b) : n0 <= b := by
 obtain ⟨o, l, c, e⟩ := hb
 exact (h.2 b o l c e).1
theorem Dk.same {H' : AH} (h : Dk n0 k H v vs L) (hn : H.n <= H'.n) (hv : ∀ b, inB v b -> H'.get b = H.get b) (hx : ∀ (i : Nat) (x : Value), vs[i]? = some x -> ∀ b, inB x b -> H'.get b = H.get b) : Dk n0 k H' v vs L :=
 ⟨h.len, Own.same h.own hn hv, fun i x l hi h1 h2 => Own.same (h.el i x l hi h1 h2) hn (hx i x h1), fun i x l hi h1 h2 => ⟨Sl.same (h.old i x l hi h1 h2).1 hn (hx i x h1), (h.old i x l hi h1 h2).2⟩, h.dis, h.sep⟩
theorem Dk.ext {H' : AH} (h : Dk n0 k H v vs L) (x : HExt H H') : Dk n0 k H' v vs L := h.same x.1 (fun b hb => x.2 b (h.own.1.lt hb)) fun i y hy b hb => x.2 b (h.lt i y hy hb)
theorem Dk.set {E : Nat} {bk : Blk} (h : Dk n0 k H v vs L) (hv : ¬ inB v E) (hx : ∀ (i : Nat) (x : Value), vs[i]? = some x -> ¬ inB x E) : Dk n0 k (H.set E bk) v vs L := by
 refine h.same (Nat.le_refl _) (fun b hb => ?_) fun i x hi b hb => ?_
 ·rw [AH.get_set, if_neg (fun e : b = E => hv (e ▸ hb))]
 ·rw [AH.get_set, if_neg (fun e : b = E => hx i x hi (e ▸ hb))]
theorem ybk {α : Type} {l : List α} {i j : Nat} {a b : α} (hij : i ≠ j) (h : (l.set i a)[j]? = some b) : l[j]? = some b := by rw [List.getElem?_set_ne hij] at h; exact h
theorem Dk.upd {H' : AH} (h : Dk n0 k H v vs L) (i : Nat) (hi : i < k) (x : Value) (l' : List Int) (hx : vs[i]? = some x) (ho : OwnB n0 H' x l') (hs : Stp x H x H') : Dk n0 k H' v vs (L.set i l') := by
 have hil : i < L.length := by have := (List.getElem?_eq_some_iff.1 hx).1; rw [<- h.len]; exact this
 refine ⟨by rw [h.len]; simp, ?_, fun j y l hj h1 h2 => ?_, fun j y l hj h1 h2 => ?_, h.dis, h.sep⟩
 ·rw [List.length_set]
  exact Own.same h.own hs.n fun b hb => hs.get b (h.own.1.lt hb) fun h' => h.dis i x hi hx b h' hb
 ·by_cases hij : i = j
  ·subst hij
   rw [hx] at h1; cases h1
   rw [List.getElem?_set, if_pos rfl, if_pos hil] at h2
   cases h2; exact ho
  ·have h2' := ybk hij h2
   exact Own.same (h.el j y l hj h1 h2') hs.n fun b hb => hs.get b (h.lt j y h1 hb) fun h' => h.sep i j x y hi hj hx h1 hij b h' hb
 ·have hij : i ≠ j := by omega
  have h2' := ybk hij h2
  obtain ⟨a, c⟩ := h.old j y l hj h1 h2'
  exact ⟨Sl.same a hs.n fun b hb => hs.get b (h.lt j y h1 hb) fun h' => by have := h.ge i x hi hx h'; have := c b hb; omega, c⟩
theorem Dk.repl {H' : AH} (h : Dk n0 k H v vs L) (i : Nat) (hi : i <= k) (hil : i < L.length) (x' : Value) (l' : List Int) (hb : OwnB n0 H x' l') (hv : ∀ b, inB x' b -> ¬ inB v b) (hs : ∀ (j : Nat) (y : Value), vs[j]? = some y -> ∀ b, inB x' b -> ¬ inB y b)
  (ho : Own n0 1 H' v L.length (vs.set i x')) (hst : Stp v H v H') : Dk n0 (max k (i + 1)) H' v (vs.set i x') (L.set i l') := by
 have hk : ∀ j, j < max k (i + 1) -> j ≠ i -> j < k := by intro j h1 h2; omega
 have same : ∀ (y : Value) (l : List Int), Byts H y l -> (∀ b, inB y b -> ¬ inB v b) -> ∀ b, inB y b -> H'.get b = H.get b := fun y l hy hd b hb => hst.get b (hy.lt hb) (hd b hb)
 have hset : (vs.set i x')[i]? = some x' := by rw [List.getElem?_set, if_pos rfl, if_pos (by rw [h.len]; exact hil)]
 refine ⟨by simp [h.len], by rw [List.length_set]; exact ho, fun j y l hj h1 h2 => ?_, fun j y l hj h1 h2 => ?_, fun j y hj h1 => ?_, fun j q y z hj hq h1 h2 hne => ?_⟩
 ·by_cases hij : i = j
  ·subst hij
   rw [hset] at h1; cases h1
   rw [List.getElem?_set, if_pos rfl, if_pos hil] at h2
   cases h2
   exact Own.same hb hst.n (same _ _ hb.1 hv)
  ·have h1' := ybk hij h1
   have h2' := ybk hij h2
   have := h.el j y l (hk j hj (Ne.symm hij)) h1' h2'
   exact Own.same this hst.n (same _ _ this.1 (h.dis j y (hk j hj (Ne.symm hij)) h1'))
 ·have hij : i ≠ j := by omega
  have h1' := ybk hij h1
  have h2' := ybk hij h2
  obtain ⟨a, c⟩ := h.old j y l (by omega) h1' h2'
  exact ⟨Sl.same a hst.n (same _ _ a fun b hb hb2 => by have := Own.geB h.own hb2; have := c b hb; omega), c⟩
 ·by_cases hij : i = j
  ·subst hij
   rw [hset] at h1; cases h1
   exact hv
  ·exact h.dis j y (hk j hj (Ne.symm hij)) (ybk hij h1)
 ·by_cases hij : i = j
  ·subst hij
   rw [hset] at h1; cases h1
   exact hs q z (ybk hne h2)
  ·have h1' := ybk hij h1
   by_cases hiq : i = q
   ·subst hiq
    rw [hset] at h2; cases h2
    exact fun b hy hx => hs j y h1' b hx hy
   ·exact h.sep j q y z (hk j hj (Ne.symm hij)) (hk q hq (Ne.symm hiq)) h1' (ybk hiq h2) hne
theorem Dk.one (h : Dk n0 k H v vs L) : vs.all one = true := by
 rw [List.all_eq_true]
 intro x hx
 obtain ⟨i, hi⟩ := List.getElem?_of_mem hx
 have hl : i < L.length := by have := (List.getElem?_eq_some_iff.1 hi).1; rw [<- h.len]; exact this
 exact (yan (h.byt i x _ hi (List.getElem?_eq_getElem hl))).1
theorem ymV (L : List (List Int)) (hL : L.length <= 1000) (hL0 : 0 < L.length) (s : Value) (H0 H : AH) (x0 : HExt H0 H) (Q : Value -> AH -> Prop) (hs : Secs H0 s L)
  (hq : ∀ v vs H', Dk H0.n 0 H' v vs L -> (∀ b, inB v b -> H.n <= b) -> HExt H H' -> Q v H') : Got (xc Tryz.prog tab 77 [s] H) Q := by
 refine yac (res := [.tmp 2]) rfl ?_
 obtain ⟨vs, h1, h2⟩ := hs
 obtain ⟨B, o, c, blk, rfl, _⟩ := h1.live hL0
 have e1 : yd3 (.slice none 0 0) (.slice (some ⟨B, o, none⟩) L.length c) = some false := rfl
 simp only [zZ, zY, ofArgs, q_d, q_f, q_m, q_C, qb_a, qb_m, ev, qb_A, qb_B, qb_C, resV, qb_D, if_true, if_false, reduceCtorEq, Nat.reduceEqDiff, Nat.reduceLT, e1, v_bs0]
 have hone : vs.all one = true := by
  rw [List.all_eq_true]
  intro x hx
  obtain ⟨i, hi⟩ := List.getElem?_of_mem hx
  obtain ⟨l, _, h4⟩ := h2 i x hi
  exact (ye1 h4).1
 refine yc4 (yiL H) (by simp) (Sl.ext (x0.trans (yab _ _)) h1) hone (Nat.le_refl _) (by omega) (by omega) ?_
 intro v H' o' s'
 have hx : HExt H H' := Keep.trans (n0 := H.n) (yab H _) (s'.keep (yiL H) (by simp))
 have hvl : vs.length = L.length := by simpa using h1.len
 have o2 : Own H.n 1 H' v L.length vs := by simpa using o'
 refine hq v vs H' ⟨hvl, Own.le o2 x0.1, fun i x l hi _ _ => by omega, fun i x l _ h3 h4 => ?_, fun i x hi => by omega, fun i j x y hi => by omega⟩ (fun b hb => Own.geB o2 hb) hx
 obtain ⟨l', h5, h6⟩ := h2 i x h3
 rw [h4] at h5; cases h5
 exact ⟨Sl.ext (x0.trans hx) h6, fun b hb => h6.lt hb⟩
set_option maxHeartbeats 4000000 in
theorem yle (T S : Int) (v : Value) (H : AH) (L : List (List Int)) (Q : Value -> AH -> Prop) (hs : Secs H v L) (h8 : ∀ l ∈ L, SecOk l) (hL : L.length <= 1000) (hL0 : 0 < L.length)
  (hq : ∀ v' vs H', Dk H.n L.length H' v' vs L -> HExt H H' -> Q (.agg #[.int .i64 T, .int .i64 S, v']) H') : Got (xc Tryz.prog tab 35 [.agg #[.int .i64 T, .int .i64 S, v]] H) Q := by
 refine yac (res := [.cell 2 (some 3)]) rfl ?_
 have vA : vcells (.agg #[.int .i64 T, .int .i64 S, v]) = [.int .i64 T, .int .i64 S, v] := rfl
 have b1 := Bx.new H [.int .i64 T, .int .i64 S, v]
 have x1 := yab H ⟨[.int .i64 T, .int .i64 S, v], 1, false, false⟩
 have n1 : (H.push ⟨[.int .i64 T, .int .i64 S, v], 1, false, false⟩).n = H.n + 1 := rfl
 have r1 := Bx.new (H.push ⟨[.int .i64 T, .int .i64 S, v], 1, false, false⟩) [.int .i64 0, .int .i64 0, .slice none 0 0]
 have x2 := yab (H.push ⟨[.int .i64 T, .int .i64 S, v], 1, false, false⟩) ⟨[.int .i64 0, .int .i64 0, .slice none 0 0], 1, false, false⟩
 have n2 : ((H.push ⟨[.int .i64 T, .int .i64 S, v], 1, false, false⟩).push ⟨[.int .i64 0, .int .i64 0, .slice none 0 0], 1, false, false⟩).n = H.n + 2 := rfl
 generalize hTT : ((.seq (.ops (⟨some 4, _, _⟩ :: _) _) _) : XCode) = TT
 simp only [zZ, zY, ofArgs, qb_i, qb_j, ev, if_true, if_false, reduceCtorEq, Nat.reduceEqDiff, Nat.reduceLT, vA, n1]
 rw [n1] at r1
 have b2 := b1.ext x2
 have x12 := x1.trans x2
 generalize (H.push ⟨[.int .i64 T, .int .i64 S, v], 1, false, false⟩).push ⟨[.int .i64 0, .int .i64 0, .slice none 0 0], 1, false, false⟩ = H2 at *
 have l2 := b2.ld 2 v rfl
 subst hTT
 generalize hTT : ((.seq (.seq (.ops (⟨some 8, _, _⟩ :: _) _) _) _) : XCode) = TT
 simp only [zZ, zY, q_U, v_ld, v_st, qb_h, ev, qb_p, qb_q, qb_v, if_true, if_false, Nat.reduceEqDiff, Nat.reduceLT, fldAk, l2]
 refine ymV L hL hL0 v H H2 x12 _ hs ?_
 intro w vs H3 d3 hw x3
 obtain ⟨w1, w2⟩ := yan d3.own.1
 have b3 := b2.ext x3
 have r3 := r1.ext x3
 have st := b3.st 2 (by simp) w w1 w2
 have b4 := b3.set [.int .i64 T, .int .i64 S, w]
 simp only [List.set_cons_succ, List.set_cons_zero] at st
 simp only [q_q, st]
 have d4 : Dk H.n 0 (H3.set H.n ⟨[.int .i64 T, .int .i64 S, w], 1, false, false⟩) w vs L := by
  refine d3.set (fun h => by have := hw _ h; omega) fun i x hx h => ?_
  have hil : i < L.length := by have := (List.getElem?_eq_some_iff.1 hx).1; rw [<- d3.len]; exact this
  have := (d3.old i x _ (Nat.zero_le _) hx (List.getElem?_eq_getElem hil)).2 _ h
  omega
 have r4 : Bx (H3.set H.n ⟨[.int .i64 T, .int .i64 S, w], 1, false, false⟩) (H.n + 1) [.int .i64 0, .int .i64 0, .slice none 0 0] := r3.same (Nat.le_refl _) (by rw [AH.get_set, if_neg (by omega)])
 have x4 : HExt H (H3.set H.n ⟨[.int .i64 T, .int .i64 S, w], 1, false, false⟩) := (x12.trans x3).trans' (Nat.le_refl _) fun b hb => by rw [AH.get_set, if_neg (by omega)]
 have n34 : (H3.set H.n ⟨[.int .i64 T, .int .i64 S, w], 1, false, false⟩).n = H3.n := rfl
 have n23 := x3.1
 generalize H3.set H.n ⟨[.int .i64 T, .int .i64 S, w], 1, false, false⟩ = H4 at *
 have l4 := b4.ld 2 w rfl
 have hv4 := ybC d4.own.1
 subst hTT
 generalize hTT : ((.seq (.ops (⟨some 25, _, _⟩ :: _) _) _) : XCode) = TT
 simp only [zZ, zY, q_b, q_X, v_ld, qb_h, ev, if_true, if_false, Nat.reduceEqDiff, Nat.reduceLT, fldAk, l4, hv4]
 refine yaz (fun k fr H' => ∃ vs, Dk H.n k H' w vs L /\ Bx H' H.n [.int .i64 T, .int .i64 S, w] /\ Bx H' (H.n + 1) [.int .i64 0, .int .i64 0, .slice none 0 0] /\ HExt H H' /\ H2.n <= H'.n /\ (∀ i x, i < k -> vs[i]? = some x -> ∀ b, inB x b -> H2.n <= b) /\ fr = [(1, .pointer (some ⟨H.n, 0, none⟩)), (2, .pointer (some ⟨H.n + 1, 0, none⟩)), (10, .int .i64 (L.length : Int)), (11, .int .i64 (k : Int))]) L.length ⟨vs, d4, b4, r4, x4, by omega, fun i x hi => by omega, rfl⟩ ?_ ?_
 ·rintro k hk fr H5 ⟨vs, d5, b5, r5, x5, n5, hge, rfl⟩ J hJ
  obtain ⟨x, hx, hl⟩ := d5.get2 k hk
  have hlt : (k : Int) < (L.length : Int) := by omega
  have w3 := wrS k (by omega)
  have l5 := b5.ld 2 w rfl
  have iw := yau d5.own.1 .i64 (k : Int) k rfl hk
  have dw := yaV d5.own.1 k x hx
  have hb := d5.byt k x _ hx hl
  have h128 := (h8 _ (List.getElem_mem hk)).1
  have hnn : ∃ B o l c, x = .slice (some ⟨B, o, none⟩) l c := by
   obtain ⟨B, o, c, blk, h, _⟩ := Sl.live hb (by omega)
   exact ⟨B, o, _, c, h⟩
  have vq : veq w w = true := Sl.veq d5.own.1
  simp only [zZ, zY, ydl, q_b, q_d, q_B, q_W, ev, xbin, ibin, if_true, if_false, Nat.reduceEqDiff, Nat.reduceLT, hlt, decide_true]
  refine ybQ _ _ _ _ _ ?_
  simp only [zZ, zY, q_j, q_U, q_Z, v_ld, v_st, qb_h, ev, qb_p, qb_q, qb_v, if_true, if_false, reduceCtorEq, Nat.reduceEqDiff, Nat.reduceLT, Nat.zero_add, Nat.reduceAdd, and_true, qb_E, qb_F, hs0, hs1, hs2, qb_G, qb_H, qb_I, qb_J, qb_K, qb_L, qb_M, fldAk, l5, iw, dw]
  refine ynZ (L[k]'hk) (by omega) x H5 _ hb hnn ?_
  intro y H6 oy x6
  have d6 := d5.ext x6
  have iw6 := yau d6.own.1 .i64 (k : Int) k rfl hk
  obtain ⟨y1, y2⟩ := yan oy.1
  have l6 := (b5.ext x6).ld 2 w rfl
  simp only [q_q, iw6]
  refine yfm (j := k) d6.own (by rw [d6.len]; exact hk) y1 y2 ?_
  intro H7 o7 s7
  have hyge : ∀ b, inB y b -> H5.n <= b := fun b hb => Own.geB oy hb
  have d7 := d6.repl k (Nat.le_refl _) hk y (L[k]'hk) (Own.le oy x5.1) (fun b hb hb2 => by have := hyge b hb; have := d5.own.1.lt hb2; omega) (fun j z hz b hb hb2 => by have := hyge b hb; have := d5.lt j z hz hb2; omega) o7 s7
  rw [List.set_getElem_self, Nat.max_eq_right (by omega)] at d7
  have hwn : ∀ E, E < H2.n -> ¬ inB w E := fun E hE h => by have := hw E h; omega
  have b7 := (b5.ext x6).same s7.n (s7.get H.n (b5.ext x6).2 (hwn _ (by omega)))
  have r7 := (r5.ext x6).same s7.n (s7.get (H.n + 1) (r5.ext x6).2 (hwn _ (by omega)))
  have l7 := b7.ld 2 w rfl
  have n67 := s7.n
  have n56 := x6.1
  simp only [q_q, true_and, l6, vq, w3]
  refine hJ _ _ ⟨vs.set k y, d7, b7, r7, (x5.trans x6).trans' s7.n fun b hb => s7.get b (by have := x5.1; omega) (hwn b (by omega)), by omega, fun i z hi hz b hb => ?_, rfl⟩
  by_cases hik : k = i
  ·subst hik
   rw [List.getElem?_set, if_pos rfl, if_pos (by rw [d5.len]; exact hk)] at hz
   cases hz
   have := hyge b hb; omega
  ·exact hge i z (by omega) (ybk hik hz) b hb
 ·rintro fr H5 ⟨vs, d5, b5, r5, x5, n5, hge, rfl⟩
  have ldn := b5.ldn 3 rfl
  have st5 := r5.stn 3 [.int .i64 T, .int .i64 S, w] rfl rfl (by simp only [List.all_cons, List.all_nil, w1, yaR]; rfl)
  have r6 := r5.set [.int .i64 T, .int .i64 S, w]
  have hcell : ∀ (fr : Fr) (xs : List XRes), fr.get 2 = some (.pointer (some ⟨H.n + 1, 0, none⟩)) -> xress fr (H5.set (H.n + 1) ⟨[.int .i64 T, .int .i64 S, w], 1, false, false⟩) (.cell 2 (some 3) :: xs) = (xress fr (H5.set (H.n + 1) ⟨[.int .i64 T, .int .i64 S, w], 1, false, false⟩) xs).map fun vs => .agg #[.int .i64 T, .int .i64 S, w] :: vs := by
   intro fr xs hfr
   rw [ybI fr _ 2 _ 0 (some 3) _ (.agg #[.int .i64 T, .int .i64 S, w]) xs hfr r6.1 rfl]
  subst hTT
  simp only [zZ, zY, ydl, q_b, q_e, q_f, q_h, q_k, q_m, q_C, q_W, v_ld, v_st, ev, qb_v, xbin, ibin, qb_A, qb_B, resV, qb_D, if_true, if_false, Nat.reduceEqDiff, Nat.reduceLT, Int.lt_irrefl, decide_false, ldn, st5, hcell]
  refine hq w vs _ (d5.set (fun h => by have := hw _ h; omega) fun i x hx h => ?_) (x5.trans' (Nat.le_refl _) fun b hb => by rw [AH.get_set, if_neg (by omega)])
  have hil : i < L.length := by have := (List.getElem?_eq_some_iff.1 hx).1; rw [<- d5.len]; exact this
  have := hge i x hil hx _ h
  omega
end Go.Proofs.YtnjjnnfpnjjccaaGreatDoor.D
set_option linter.unusedSimpArgs false
set_option linter.unusedVariables false
namespace Go.Proofs.YtnjjnnfpnjjccaaGreatDoor.D
open Go Go.Det
def setT (L : List (List Int)) (k : Nat) (c : Int) : List (List Int) := L.set (k / 128) ((L.getD (k / 128) []).set (k % 128) c)
theorem ycJ (L : List (List Int)) (k : Nat) (c : Int) : (setT L k c).length = L.length := by simp [setT]
theorem ygF (L : List (List Int)) (k : Nat) (c : Int) (h8 : ∀ l ∈ L, SecOk l) (hk : k / 128 < L.length) (h0 : 0 <= c) (h1 : c < 256) : ∀ l ∈ setT L k c, SecOk l := by
 intro l hl
 rcases List.mem_or_eq_of_mem_set hl with h | rfl
 ·exact h8 l h
 ·rw [yaa (List.getElem?_eq_getElem hk)]
  have := h8 _ (List.getElem_mem hk)
  exact ⟨by rw [List.length_set]; exact this.1, yoj _ this.2 _ _ h0 h1⟩
theorem yjV (L : List (List Int)) (k : Nat) (c : Int) (h8 : ∀ l ∈ L, SecOk l) (hk : k / 128 < L.length) (j : Nat) : tb (setT L k c) j = if j = k then c else tb L j := by
 have e : L.getD (k / 128) [] = L[k / 128]'hk := yaa (List.getElem?_eq_getElem hk)
 have hl := (h8 _ (List.getElem_mem hk)).1
 have hm : k % 128 < (L[k / 128]'hk).length := by rw [hl]; exact Nat.mod_lt _ (by omega)
 unfold tb setT
 rw [e]
 by_cases h : j / 128 = k / 128
 ·rw [h]
  have e2 : (L.set (k / 128) ((L[k / 128]'hk).set (k % 128) c)).getD (k / 128) [] = (L[k / 128]'hk).set (k % 128) c := yaa (by rw [List.getElem?_set, if_pos rfl, if_pos hk])
  rw [e2, e]
  by_cases h2 : j % 128 = k % 128
  ·have hjk : j = k := by omega
   rw [if_pos hjk, h2]
   exact yaa (by rw [List.getElem?_set, if_pos rfl, if_pos hm])
  ·rw [if_neg (by intro e; rw [e] at h2; exact h2 rfl)]
   simp only [List.getD_eq_getElem?_getD]
   rw [List.getElem?_set_ne (Ne.symm h2)]
 ·rw [if_neg (by intro e; rw [e] at h; exact h rfl)]
  have e2 : (L.set (k / 128) ((L[k / 128]'hk).set (k % 128) c)).getD (j / 128) [] = L.getD (j / 128) [] := by
   simp only [List.getD_eq_getElem?_getD]
   rw [List.getElem?_set_ne (Ne.symm h)]
  rw [e2]
structure Frm (vs : List Value) (H H' : AH) : Prop where
 n : H.n <= H'.n
 get : ∀ b, b < H.n -> (∀ (i : Nat) (x : Value), vs[i]? = some x -> ¬ inB x b) -> H'.get b = H.get b
theorem Frm.refl (vs : List Value) (H : AH) : Frm vs H H := ⟨Nat.le_refl _, fun _ _ _ => rfl⟩
theorem Frm.trans {vs : List Value} {A B C : AH} (h : Frm vs A B) (k : Frm vs B C) : Frm vs A C := ⟨Nat.le_trans h.n k.n, fun b hb hx => (k.get b (Nat.lt_of_lt_of_le hb h.n) hx).trans (h.get b hb hx)⟩
theorem Frm.ext {vs : List Value} {A B : AH} (h : HExt A B) : Frm vs A B := ⟨h.1, fun b hb _ => h.2 b hb⟩
theorem Frm.stp {vs : List Value} {A B : AH} {i : Nat} {x : Value} (hx : vs[i]? = some x) (h : Stp x A x B) : Frm vs A B := ⟨h.n, fun b hb hh => h.get b hb (hh i x hx)⟩
theorem Frm.hext {vs : List Value} {H0 A B : AH} (h : Frm vs A B) (hge : ∀ (i : Nat) (x : Value), vs[i]? = some x -> ∀ b, inB x b -> H0.n <= b) (x : HExt H0 A) : HExt H0 B :=
 x.trans' h.n fun b hb => h.get b (by have := x.1; omega) fun i y hy hin => by have := hge i y hy b hin; omega
theorem Dk.geAll {n0 : Nat} {H : AH} {v : Value} {vs : List Value} {L : List (List Int)} (d : Dk n0 L.length H v vs L) (i : Nat) (x : Value) (hx : vs[i]? = some x) (b : Nat) (hb : inB x b) : n0 <= b := by
 have hil : i < L.length := by have := (List.getElem?_eq_some_iff.1 hx).1; rw [<- d.len]; exact this
 exact d.ge i x hil hx hb
theorem Frm.bx {vs : List Value} {A B : AH} {E : Nat} {cs : List Value} (h : Frm vs A B) (b : Bx A E cs) (hE : ∀ (i : Nat) (x : Value), vs[i]? = some x -> ¬ inB x E) : Bx B E cs := b.same h.n (h.get E b.2 hE)
theorem yju {n0 : Nat} {H : AH} {v : Value} {l : List Int} {k : Nat} {c : Int} {Q : Value -> AH -> Prop} (ho : OwnB n0 H v l) (hk : k < l.length) (hq : ∀ H', OwnB n0 H' v (l.set k c) -> Stp v H v H' -> Q undef H') : Got (pSt 1 (ptrAt v k) (.int .u8 c) H) Q := by
 refine yfm ho (by simpa using hk) rfl rfl ?_
 intro H' o s
 refine hq H' ?_ s
 have el : (l.set k c).length = l.length := by simp
 unfold OwnB
 rw [el]
 have em : (l.set k c).map (Value.int .u8) = (l.map (Value.int .u8)).set k (.int .u8 c) := by simp
 rw [em]; exact o
theorem ydU {n0 : Nat} {H : AH} {v : Value} {vs : List Value} {L : List (List Int)} (d : Dk n0 L.length H v vs L) (i j : Nat) (x : Value) (l : List Int) (hx : vs[i]? = some x) (hl : L[i]? = some l) (hj : j < l.length) (c : Int) {Q : Value -> AH -> Prop}
  (hq : ∀ H', Dk n0 L.length H' v vs (L.set i (l.set j c)) -> Stp x H x H' -> OwnB n0 H' x (l.set j c) -> Q undef H') : Got (pSt 1 (ptrAt x j) (.int .u8 c) H) Q := by
 have hil := (List.getElem?_eq_some_iff.1 hl).1
 refine yju (k := j) (d.el i x l hil hx hl) hj ?_
 intro H' o s
 exact hq H' (d.upd i hil x _ hx o s) s o
theorem yn9 (T S : Int) (v : Value) (vs : List Value) (L : List (List Int)) (n0 k : Nat) (c : Int) (H : AH) (Q : Value -> AH -> Prop) (d : Dk n0 L.length H v vs L) (h8 : ∀ l ∈ L, SecOk l) (hk : k / 128 < L.length) (hk2 : k < 100000) (h0 : 0 <= c) (h1 : c < 256)
  (hq : ∀ H' u, Dk n0 L.length H' v vs (setT L k c) -> Frm vs H H' -> Q u H') : Got (xc Tryz.prog tab 99 [.agg #[.int .i64 T, .int .i64 S, v], .int .i64 (k : Int), .int .i64 c] H) Q := by
 refine yac (res := []) rfl ?_
 have vA : vcells (.agg #[.int .i64 T, .int .i64 S, v]) = [.int .i64 T, .int .i64 S, v] := rfl
 have b := Bx.new H [.int .i64 T, .int .i64 S, v]
 have x := yab H ⟨[.int .i64 T, .int .i64 S, v], 1, false, false⟩
 simp only [zZ, zY, ofArgs, q_n, q_W, q_Z, v_ld, v_st, qb_f, qb_h, qb_j, ev, qb_v, xbin, ibin, qb_A, qb_B, resV, qb_D, if_true, if_false, reduceCtorEq, Nat.reduceEqDiff, Nat.reduceLT, Nat.zero_add, Nat.reduceAdd, vA]
 generalize H.push ⟨[.int .i64 T, .int .i64 S, v], 1, false, false⟩ = H1 at *
 have l2 := b.ld 2 v rfl
 have d1 := d.ext x
 have q1 : IntKind.i64.wrap ((k : Int).tdiv 128) = ((k / 128 : Nat) : Int) := quoN k 128 (by omega)
 have q2 : (k : Int).tmod 128 = ((k % 128 : Nat) : Int) := rfl
 obtain ⟨e, e1, e2⟩ := d1.get2 (k / 128) hk
 have i1 := yau d1.own.1 .i64 ((k / 128 : Nat) : Int) (k / 128) rfl hk
 have i2 := yaV d1.own.1 (k / 128) e e1
 have hb := d1.byt _ _ _ e1 e2
 have hl := (h8 _ (List.getElem_mem hk)).1
 have hm : k % 128 < (L[k / 128]'hk).length := by rw [hl]; exact Nat.mod_lt _ (by omega)
 have i3 := yam hb ((k % 128 : Nat) : Int) (k % 128) rfl hm
 have n128 : ¬ ((128 : Int) = 0) := by decide
 have cv : ∀ H, pConv .u8 (.int .i64 c) H = some (.int .u8 c, H) := fun H => by show some (Value.int .u8 (IntKind.u8.wrap c), H) = _; rw [wrU8' c h0 h1]
 simp only [q_q, zC, if_false, fldAk, l2, n128, q1, q2, i1, i2, i3, cv]
 refine ydU d1 (k / 128) (k % 128) e _ e1 e2 hm c ?_
 intro H2 d2 s2 _
 refine hq H2 _ ?_ ((Frm.ext x).trans (Frm.stp e1 s2))
 unfold setT
 rw [yaa e2]; exact d2
theorem Dk.nil (n0 : Nat) (H : AH) : Dk n0 0 H (.slice none 0 0) [] [] := ⟨rfl, Own.nil _ _ _, fun i x l hi => by omega, fun i x l _ h => by simp at h, fun i x hi => by omega, fun i j x y hi => by omega⟩
theorem Dk.push {n0 : Nat} {H : AH} {v x : Value} {vs : List Value} {L : List (List Int)} {l : List Int} (h : Dk n0 L.length H v vs L) (hn : n0 <= H.n) (hx : OwnB n0 H x l) (hv : ∀ b, inB x b -> ¬ inB v b) (hs : ∀ (j : Nat) (y : Value), vs[j]? = some y -> ∀ b, inB x b -> ¬ inB y b) (hL : L.length <= 1000) {Q : Value -> AH -> Prop}
  (hq : ∀ v' H', Dk n0 (L ++ [l]).length H' v' (vs ++ [x]) (L ++ [l]) -> HExt H (H.push ⟨[x], 1, false, false⟩) -> (∀ b, b < H.n -> ¬ inB v b -> H'.get b = H.get b) -> H.n <= H'.n -> (∀ b, inB v' b -> inB v b \/ H.n < b) -> Q v' H') : Got (xapp (H.push ⟨[x], 1, false, false⟩) 1 24 v (.slice (some ⟨H.n, 0, none⟩) 1 1)) Q := by
 have x1 := yab H ⟨[x], 1, false, false⟩
 have n1 : (H.push ⟨[x], 1, false, false⟩).n = H.n + 1 := rfl
 have d1 := h.ext x1
 refine yc4 d1.own (by omega) (Sl.pushed H [x] 1 1 false false rfl) (by simp only [List.all_cons, List.all_nil, (yan hx.1).1]; rfl) (by decide) (by decide) (by omega) ?_
 intro v' H' o s
 have hk : ∀ b, b < H.n -> ¬ inB v b -> H'.get b = H.get b := fun b hb hv => (s.get b (by omega) hv).trans (x1.2 b hb)
 have hnn : H.n <= H'.n := by have := s.n; omega
 have vlen := h.len
 have fresh : ∀ b, inB v' b -> inB v b \/ H.n < b := fun b hb => (s.new b hb).imp id fun h => by omega
 have nd : ∀ (y : Value) (m : List Int), Byts H y m -> (∀ b, inB y b -> ¬ inB v b) -> ∀ b, inB y b -> ¬ inB v' b := fun y m hy hd b hb hb2 => by
  rcases fresh b hb2 with h1 | h1
  ·exact hd b hb h1
  ·have := hy.lt hb; omega
 have kp : ∀ (y : Value) (m : List Int), OwnB n0 H y m -> (∀ b, inB y b -> ¬ inB v b) -> OwnB n0 H' y m := fun y m hy hd => Own.same hy hnn fun b hb => hk b (hy.1.lt hb) (hd b hb)
 have get : ∀ (i : Nat) (y : Value), (vs ++ [x])[i]? = some y -> (i < L.length /\ vs[i]? = some y) \/ (i = L.length /\ y = x) := fun i y hy => by
  rcases Nat.lt_or_ge i vs.length with hi | hi
  ·rw [List.getElem?_append_left hi] at hy; exact .inl ⟨by omega, hy⟩
  ·rw [List.getElem?_append_right hi] at hy
   have : i - vs.length = 0 := by
    rcases Nat.lt_or_ge (i - vs.length) 1 with h1 | h1
    ·omega
    ·rw [List.getElem?_eq_none (by simpa using h1)] at hy; cases hy
   rw [this] at hy
   exact .inr ⟨by omega, by simpa using hy.symm⟩
 refine hq v' H' ⟨by simp [vlen], ?_, fun i y m hi h1 h2 => ?_, fun i y m hi h1 h2 => ?_, fun i y hi h1 => ?_, fun i j y z hi hj h1 h2 hne => ?_⟩ x1 hk hnn fresh
 ·have e : (L ++ [l]).length = L.length + 1 := by simp
  rw [e]; exact o
 ·rcases get i y h1 with ⟨hil, h1'⟩ | ⟨rfl, rfl⟩
  ·rw [List.getElem?_append_left hil] at h2
   exact kp y m (h.el i y m hil h1' h2) (h.dis i y hil h1')
  ·rw [List.getElem?_append_right (Nat.le_refl _), Nat.sub_self] at h2
   have : l = m := by simpa using h2
   subst this
   exact kp y l hx hv
 ·have := (List.getElem?_eq_some_iff.1 h2).1; omega
 ·rcases get i y h1 with ⟨hil, h1'⟩ | ⟨rfl, rfl⟩
  ·exact nd y _ (h.el i y _ hil h1' (List.getElem?_eq_getElem hil)).1 (h.dis i y hil h1')
  ·exact nd y l hx.1 hv
 ·rcases get i y h1 with ⟨hil, h1'⟩ | ⟨rfl, rfl⟩
  ·rcases get j z h2 with ⟨hjl, h2'⟩ | ⟨rfl, rfl⟩
   ·exact h.sep i j y z hil hjl h1' h2' hne
   ·exact fun b hb hb2 => hs i y h1' b hb2 hb
  ·rcases get j z h2 with ⟨hjl, h2'⟩ | ⟨rfl, rfl⟩
   ·exact hs j z h2'
   ·omega
def zs128 : List Int := List.replicate 128 0
set_option maxHeartbeats 4000000 in
theorem yk3 (T S : Int) (hT : 1 <= T) (hT2 : T <= 20) (hS : 1 <= S) (hS2 : S <= 12) (N : Nat) (hN : (N : Int) = T * S) (hN2 : N <= 240) (H : AH) (Q : Value -> AH -> Prop)
  (hq : ∀ v vs H', Dk H.n N H' v vs (List.replicate N zs128) -> HExt H H' -> Q (.tuple [.agg #[.int .i64 T, .int .i64 S, v], .int .i64 0].toArray) H') : Got (xc Tryz.prog tab 69 [.int .i64 T, .int .i64 S] H) Q := by
 refine yac (res := [.cell 4 (some 3), .tmp 5]) rfl ?_
 have r1 := Bx.new H [.int .i64 0, .int .i64 0, .slice none 0 0]
 have x1 := yab H ⟨[.int .i64 0, .int .i64 0, .slice none 0 0], 1, false, false⟩
 have n1 : (H.push ⟨[.int .i64 0, .int .i64 0, .slice none 0 0], 1, false, false⟩).n = H.n + 1 := rfl
 generalize hTT : ((.seq (.ops (⟨some 7, _, _⟩ :: _) _) _) : XCode) = TT
 simp only [zZ, zY, ofArgs, qb_i, ev, if_true, if_false, reduceCtorEq, Nat.reduceEqDiff, Nat.reduceLT, Nat.zero_add]
 generalize H.push ⟨[.int .i64 0, .int .i64 0, .slice none 0 0], 1, false, false⟩ = H1 at *
 have st1 := (Bx.new H1 [.int .i64 0, .int .i64 0, .slice none 0 0]).stn 3 [.int .i64 T, .int .i64 S, .slice none 0 0] rfl rfl rfl
 have b2 := Bx.mk H1 [.int .i64 0, .int .i64 0, .slice none 0 0] [.int .i64 T, .int .i64 S, .slice none 0 0]
 have x2 : HExt H1 ((H1.push ⟨[.int .i64 0, .int .i64 0, .slice none 0 0], 1, false, false⟩).set H1.n ⟨[.int .i64 T, .int .i64 S, .slice none 0 0], 1, false, false⟩) := yds _ _ _
 have n2 : ((H1.push ⟨[.int .i64 0, .int .i64 0, .slice none 0 0], 1, false, false⟩).set H1.n ⟨[.int .i64 T, .int .i64 S, .slice none 0 0], 1, false, false⟩).n = H1.n + 1 := rfl
 subst hTT
 generalize hTT : ((.seq (.seq (.ops (⟨some 10, _, _⟩ :: _) _) _) _) : XCode) = TT
 simp only [zZ, zY, v_st, qb_i, ev, qb_v, if_true, if_false, reduceCtorEq, Nat.reduceEqDiff, Nat.reduceLT, Nat.zero_add, Nat.reduceAdd, vb, qb_X, qb_Y, qb_Z, yaR, ygz, eq_self, List.length_cons, List.length_nil, List.set_cons_zero, List.set_cons_succ, st1]
 have r2 := r1.ext x2
 have x02 := x1.trans x2
 generalize (H1.push ⟨[.int .i64 0, .int .i64 0, .slice none 0 0], 1, false, false⟩).set H1.n ⟨[.int .i64 T, .int .i64 S, .slice none 0 0], 1, false, false⟩ = H2 at *
 have c1 : ¬ T < 1 := by omega
 have c2 : ¬ T > 20 := by omega
 have c3 : ¬ S < 1 := by omega
 have c4 : ¬ S > 12 := by omega
 have wm : IntKind.i64.wrap (T * S) = (N : Int) := by rw [wrI _ (by omega) (by omega), hN]
 subst hTT
 generalize hTT : ((.seq (.ops (⟨some 37, _, _⟩ :: _) _) _) : XCode) = TT
 simp only [zZ, zY, q_b, q_d, q_t, q_C, q_W, qb_o, ev, xbin, ibin, if_true, if_false, reduceCtorEq, Nat.reduceEqDiff, Nat.reduceLT, c1, c2, c3, c4, decide_false, wm]
 refine yaz (fun k fr H' => ∃ v vs, Dk H.n (List.replicate k zs128).length H' v vs (List.replicate k zs128) /\ (∀ b, inB v b -> H2.n <= b) /\ (∀ (i : Nat) (x : Value), vs[i]? = some x -> ∀ b, inB x b -> H2.n <= b) /\ Bx H' H1.n [.int .i64 T, .int .i64 S, v] /\ Bx H' H.n [.int .i64 0, .int .i64 0, .slice none 0 0] /\ HExt H H' /\ H2.n <= H'.n /\ fr = [(4, .pointer (some ⟨H.n, 0, none⟩)), (6, .pointer (some ⟨H1.n, 0, none⟩)), (27, .int .i64 (N : Int)), (28, .int .i64 (k : Int))]) N ⟨_, [], Dk.nil H.n H2, fun b ⟨o, l, c, e⟩ => by (cases e), fun i x h => by simp at h, b2, r2, x02, Nat.le_refl _, rfl⟩ ?_ ?_
 ·rintro k hk fr H3 ⟨v, vs, d3, hv3, hvs3, b3, r3, x3, n3, rfl⟩ J hJ
  have hlt : (k : Int) < (N : Int) := by omega
  have w3 := wrS k (by omega)
  have l3 := b3.ld 2 v rfl
  have hmk := ydQ (.int .u8 0) 128 (by omega) .i64 H3 128 rfl
  have x4 := yab H3 ⟨rep 128 [.int .u8 0], 1, false, false⟩
  have n4 : (H3.push ⟨rep 128 [.int .u8 0], 1, false, false⟩).n = H3.n + 1 := rfl
  have ob : OwnB H3.n (H3.push ⟨rep 128 [.int .u8 0], 1, false, false⟩) (.slice (some ⟨H3.n, 0, none⟩) 128 128) zs128 := by
   have hp := Own.pushed H3 (rep 128 [.int .u8 0]) 1 128 false (by rw [yaB]; rfl)
   unfold OwnB
   rw [ydL] at hp
   simpa [ydL, zs128] using hp
  have l4 := (b3.ext x4).ld 2 v rfl
  have vq : veq v v = true := Sl.veq d3.own.1
  have d4 := d3.ext x4
  have r4 := r3.ext x4
  have b4 := b3.ext x4
  have e128 : ∀ b, inB (Value.slice (some ⟨H3.n, 0, none⟩) 128 128) b -> b = H3.n := fun b ⟨o, l, c, e⟩ => by cases e; rfl
  simp only [zZ, zY, ydE, q_b, q_d, q_B, q_W, ev, xbin, ibin, if_true, if_false, Nat.reduceEqDiff, Nat.reduceLT, hlt, decide_true]
  refine ybQ _ _ _ _ _ ?_
  simp only [zZ, zY, q_j, v_ld, v_st, qb_a, qb_d, pBs1, qb_h, qb_k, ev, qb_v, if_true, if_false, reduceCtorEq, Nat.reduceEqDiff, Nat.reduceLT, Nat.zero_add, Nat.reduceAdd, and_true, qb_E, qb_F, hs0, hs1, hs2, hs3, qb_G, qb_H, qb_I, qb_J, qb_K, qb_L, qb_M, fldAk, l3, hmk]
  have ldS := fun (H' : AH) (b : Bx H' H1.n [.int .i64 T, .int .i64 S, v]) => b.ld 2 v rfl
  generalize H3.push ⟨rep 128 [.int .u8 0], 1, false, false⟩ = H4 at *
  have x5 := yab H4 ⟨[.slice (some ⟨H3.n, 0, none⟩) 128 128], 1, false, false⟩
  have l5 := ldS _ (b4.ext x5)
  refine Dk.push (l := zs128) d4 (by have := x3.1; omega) (Own.le ob (by have := x3.1; omega)) (fun b hb hb2 => by have := e128 b hb; have := d3.own.1.lt hb2; omega) (fun j y hy b hb hb2 => by have := e128 b hb; have := d3.lt j y hy hb2; omega) (by simp; omega) ?_
  intro v' H5 d5 _ same n5 fresh
  have eN : List.replicate k zs128 ++ [zs128] = List.replicate (k + 1) zs128 := by rw [List.replicate_succ']
  rw [eN] at d5
  have hv5 : ∀ b, inB v' b -> H2.n <= b := fun b hb => by
   rcases fresh b hb with h | h
   ·exact hv3 b h
   ·omega
  have hvE : ∀ E, E < H2.n -> ¬ inB v E := fun E hE h => by have := hv3 E h; omega
  have b5 := b4.same n5 (same H1.n b4.2 (hvE _ (by omega)))
  have r5 := r4.same n5 (same H.n r4.2 (hvE _ (by omega)))
  obtain ⟨v1, v2⟩ := yan d5.own.1
  have st5 := b5.st 2 (by simp) v' v1 v2
  simp only [List.set_cons_succ, List.set_cons_zero] at st5
  have b6 := b5.set [.int .i64 T, .int .i64 S, v']
  have hvs5 : ∀ (i : Nat) (x : Value), (vs ++ [Value.slice (some ⟨H3.n, 0, none⟩) 128 128])[i]? = some x -> ∀ b, inB x b -> H2.n <= b := fun i x hx b hb => by
   rcases Nat.lt_or_ge i vs.length with hi | hi
   ·rw [List.getElem?_append_left hi] at hx; exact hvs3 i x hx b hb
   ·rw [List.getElem?_append_right hi] at hx
    have : x = .slice (some ⟨H3.n, 0, none⟩) 128 128 := by
     have := List.mem_of_getElem? hx
     simpa using this
    rw [this] at hb
    have := e128 b hb; omega
  simp only [q_q, and_true, true_and, st5, l4, l5, vq, w3]
  refine hJ _ _ ⟨v', _, d5.set (fun h => by have := hv5 _ h; omega) (fun i x hx h => by have := hvs5 i x hx _ h; omega), hv5, hvs5, b6, r5.same (Nat.le_refl _) (by rw [AH.get_set, if_neg (by omega)]), ?_, by show H2.n <= H5.n; omega, rfl⟩
  refine (x3.trans x4).trans' (by show H4.n <= H5.n; exact n5) fun b hb => ?_
  rw [AH.get_set, if_neg (by omega)]
  exact same b (by have := x3.1; omega) (hvE b (by omega))
 ·rintro fr H3 ⟨v, vs, d3, hv3, hvs3, b3, r3, x3, n3, rfl⟩
  rw [List.length_replicate] at d3
  obtain ⟨w1, w2⟩ := yan d3.own.1
  have ldn := b3.ldn 3 rfl
  have st5 := r3.stn 3 [.int .i64 T, .int .i64 S, v] rfl rfl (by simp only [List.all_cons, List.all_nil, w1, yaR]; rfl)
  have r6 := r3.set [.int .i64 T, .int .i64 S, v]
  have hcell : ∀ (fr : Fr) (xs : List XRes), fr.get 4 = some (.pointer (some ⟨H.n, 0, none⟩)) -> xress fr (H3.set H.n ⟨[.int .i64 T, .int .i64 S, v], 1, false, false⟩) (.cell 4 (some 3) :: xs) = (xress fr (H3.set H.n ⟨[.int .i64 T, .int .i64 S, v], 1, false, false⟩) xs).map fun vs => .agg #[.int .i64 T, .int .i64 S, v] :: vs := by
   intro fr xs hfr
   rw [ybI fr _ 4 _ 0 (some 3) _ (.agg #[.int .i64 T, .int .i64 S, v]) xs hfr r6.1 rfl]
  subst hTT
  simp only [zZ, zY, ydE, q_b, q_e, q_f, q_h, q_k, q_m, q_C, q_W, v_ld, v_st, ev, qb_v, xbin, ibin, qb_A, qb_B, qb_C, resV, qb_D, if_true, if_false, Nat.reduceEqDiff, Nat.reduceLT, Int.lt_irrefl, decide_false, ldn, st5, hcell]
  exact hq v vs _ (d3.set (fun h => by have := hv3 _ h; omega) fun i x hx h => by have := hvs3 i x hx _ h; omega) (x3.trans' (Nat.le_refl _) fun b hb => by rw [AH.get_set, if_neg (by omega)])
theorem ykk {n0 : Nat} {H : AH} {v : Value} {vs : List Value} {L L' : List (List Int)} (d : Dk n0 L.length H v vs L') (h : L'.length = L.length) : Dk n0 L'.length H v vs L' := by rw [h]; exact d
set_option maxHeartbeats 8000000 in
theorem yn0 (T S : Int) (hT : 1 <= T) (hT2 : T <= 20) (hS : 1 <= S) (hS2 : S <= 12) (N : Nat) (hN : (N : Int) = T * S) (hN10 : 10 < N) (hN2 : N <= 240) (H : AH) (Q : Value -> AH -> Prop)
  (hq : ∀ v vs L H', Dk H.n L.length H' v vs L -> L.length = N -> (∀ l ∈ L, SecOk l) -> (∀ j, j < 256 -> tb L j = if 10 <= j /\ j < N then 255 else 253) -> (∀ i, 2 <= i -> i < N -> L[i]? = some zs128) -> HExt H H' -> Q (.tuple [.agg #[.int .i64 T, .int .i64 S, v], .int .i64 0].toArray) H') :
  Got (xc Tryz.prog tab 61 [.int .i64 T, .int .i64 S] H) Q := by
 refine yac (res := [.cell 4 (some 3), .tmp 5]) rfl ?_
 have r1 := Bx.new H [.int .i64 0, .int .i64 0, .slice none 0 0]
 have x1 := yab H ⟨[.int .i64 0, .int .i64 0, .slice none 0 0], 1, false, false⟩
 have n1 : (H.push ⟨[.int .i64 0, .int .i64 0, .slice none 0 0], 1, false, false⟩).n = H.n + 1 := rfl
 generalize hTT : ((.seq (.ops (⟨some 11, _, _⟩ :: _) _) _) : XCode) = TT
 simp only [zZ, zY, ofArgs, qb_i, ev, if_true, if_false, reduceCtorEq, Nat.reduceEqDiff, Nat.reduceLT, Nat.zero_add]
 generalize H.push ⟨[.int .i64 0, .int .i64 0, .slice none 0 0], 1, false, false⟩ = H1 at *
 subst hTT
 generalize hTT : ((.seq (.seq (.ops (⟨some 16, _, _⟩ :: _) _) _) _) : XCode) = TT
 simp only [zZ, zY, q_U, q_Y, v_st, qb_i, ev, qb_p, qb_q, qb_v, if_true, if_false, reduceCtorEq, Nat.reduceEqDiff, Nat.reduceLT]
 refine yk3 T S hT hT2 hS hS2 N hN hN2 H1 _ ?_
 intro v vs H2 d2 x2
 obtain ⟨v1, v2⟩ := yan d2.own.1
 have st3 := (Bx.new H2 [.int .i64 0, .int .i64 0, .slice none 0 0]).stn 3 [.int .i64 T, .int .i64 S, v] rfl rfl (by simp only [List.all_cons, List.all_nil, v1, yaR]; rfl)
 have b3 := Bx.mk H2 [.int .i64 0, .int .i64 0, .slice none 0 0] [.int .i64 T, .int .i64 S, v]
 have x3 : HExt H2 ((H2.push ⟨[.int .i64 0, .int .i64 0, .slice none 0 0], 1, false, false⟩).set H2.n ⟨[.int .i64 T, .int .i64 S, v], 1, false, false⟩) := yds _ _ _
 simp only [q_q, q_P, q_Q, st3]
 have d3 := d2.ext x3
 have r3 := r1.ext (x2.trans x3)
 have x03 := x1.trans (x2.trans x3)
 generalize (H2.push ⟨[.int .i64 0, .int .i64 0, .slice none 0 0], 1, false, false⟩).set H2.n ⟨[.int .i64 T, .int .i64 S, v], 1, false, false⟩ = H3 at *
 have l3 := b3.ld 2 v rfl
 have hv3 := ybC d3.own.1
 rw [List.length_replicate] at hv3
 have c1 : ¬ (N : Int) <= 10 := by omega
 subst hTT
 generalize hTT : ((.seq (.ops (⟨some 48, _, _⟩ :: _) _) _) : XCode) = TT
 simp only [zZ, zY, q_b, q_d, q_C, q_W, q_X, v_ld, qb_h, ev, xbin, ibin, if_true, if_false, Nat.reduceEqDiff, Nat.reduceLT, bne_self_eq_false, fldAk, l3, hv3, c1, decide_false]
 have hE : ∀ (i : Nat) (x : Value), vs[i]? = some x -> ¬ inB x H2.n /\ ¬ inB x H.n := fun i x hx => by
  have hil : i < N := by
   have h1 := (List.getElem?_eq_some_iff.1 hx).1
   have h2 := d2.len
   rw [List.length_replicate] at h2; omega
  exact ⟨fun h => by have := d2.lt i x hx h; omega, fun h => by have := d2.ge i x hil hx h; omega⟩
 refine yaz (fun k fr H' => ∃ L, Dk H1.n N H' v vs L /\ L.length = N /\ (∀ l ∈ L, SecOk l) /\ (∀ j, j < k -> tb L j = if 10 <= j /\ j < N then 255 else 253) /\ (∀ i, 2 <= i -> i < N -> L[i]? = some zs128) /\ Frm vs H3 H' /\ fr = [(4, .pointer (some ⟨H.n, 0, none⟩)), (6, .pointer (some ⟨H2.n, 0, none⟩)), (25, .int .i64 (k : Int))]) 256 ⟨_, d3, by simp, fun l hl => by rw [(List.mem_replicate.1 hl).2]; exact ⟨by simp [zs128], fun b hb => by rw [(List.mem_replicate.1 hb).2]; omega⟩, fun j hj => by omega, fun i _ hi => by rw [List.getElem?_replicate, if_pos hi], Frm.refl _ _, rfl⟩ ?_ ?_
 ·rintro k hk fr H4 ⟨L, d4, hL, h8, htb, hz, f4, rfl⟩ J hJ
  have b4 := f4.bx b3 fun i x hx => (hE i x hx).1
  have l4 := b4.ld 2 v rfl
  have hv4 := ybC d4.own.1
  rw [hL] at hv4
  have hlt : (k : Int) < 256 := by omega
  have w3 := wrS k (by omega)
  have q1 : IntKind.i64.wrap ((k : Int).tdiv 128) = ((k / 128 : Nat) : Int) := quoN k 128 (by omega)
  have q2 : (k : Int).tmod 128 = ((k % 128 : Nat) : Int) := rfl
  have n128 : ¬ ((128 : Int) = 0) := by decide
  have hkL : k / 128 < L.length := by omega
  obtain ⟨e, e1, e2⟩ := d4.get2 (k / 128) hkL
  have i1 := yau d4.own.1 .i64 ((k / 128 : Nat) : Int) (k / 128) rfl hkL
  have i2 := yaV d4.own.1 (k / 128) e e1
  have hb := d4.byt _ _ _ e1 e2
  have hl := (h8 _ (List.getElem_mem hkL)).1
  have hm : k % 128 < (L[k / 128]'hkL).length := by rw [hl]; exact Nat.mod_lt _ (by omega)
  have i3 := yam hb ((k % 128 : Nat) : Int) (k % 128) rfl hm
  have fin : ∀ c : Int, 0 <= c -> c < 256 -> c = (if 10 <= k /\ k < N then 255 else 253) -> ∀ H5, Dk H1.n N H5 v vs (L.set (k / 128) ((L[k / 128]'hkL).set (k % 128) c)) -> Stp e H4 e H5 -> J .normal [(4, .pointer (some ⟨H.n, 0, none⟩)), (6, .pointer (some ⟨H2.n, 0, none⟩)), (25, .int .i64 ((k + 1 : Nat) : Int))] H5 := by
   intro c h0 h1 hc H5 d5 s5
   have e3 : L.set (k / 128) ((L[k / 128]'hkL).set (k % 128) c) = setT L k c := by unfold setT; rw [yaa e2]
   rw [e3] at d5
   refine hJ _ _ ⟨setT L k c, d5, by rw [ycJ]; exact hL, ygF L k c h8 hkL h0 h1, fun j hj => ?_, fun i hi hiN => ?_, f4.trans (Frm.stp e1 s5), rfl⟩
   ·rw [yjV L k c h8 hkL j]
    by_cases hjk : j = k
    ·rw [if_pos hjk, hjk]; exact hc
    ·rw [if_neg hjk]; exact htb j (by omega)
   ·unfold setT
    rw [List.getElem?_set_ne (by omega)]
    exact hz i hi hiN
  by_cases c1 : (k : Int) >= 10
  ·by_cases c2 : (k : Int) < (N : Int)
   ·simp only [zZ, zY, yb6, q_b, q_d, q_j, q_r, q_B, q_W, q_X, q_Z, v_ld, v_st, qb_h, qb_o, ev, qb_v, xbin, ibin, if_true, if_false, Nat.reduceEqDiff, Nat.reduceLT, hlt, c1, c2, decide_true, fldAk, l4, hv4, n128, q1, q2, i1, i2, i3]
    refine ydU (ykk (by rw [hL]; exact d4) rfl) (k / 128) (k % 128) e _ e1 e2 hm 255 ?_
    intro H5 d5 s5 _
    simp only [w3]
    exact fin 255 (by omega) (by omega) (by rw [if_pos ⟨by omega, by omega⟩]) H5 (by rw [hL] at d5; exact d5) s5
   ·simp only [zZ, zY, yb6, q_b, q_d, q_j, q_r, q_B, q_C, q_W, q_X, q_Z, v_ld, v_st, qb_h, qb_o, ev, qb_v, xbin, ibin, if_true, if_false, Nat.reduceEqDiff, Nat.reduceLT, hlt, c1, c2, decide_true, decide_false, fldAk, l4, hv4, n128, q1, q2, i1, i2, i3]
    refine ydU (ykk (by rw [hL]; exact d4) rfl) (k / 128) (k % 128) e _ e1 e2 hm 253 ?_
    intro H5 d5 s5 _
    simp only [w3]
    exact fin 253 (by omega) (by omega) (by rw [if_neg (by omega)]) H5 (by rw [hL] at d5; exact d5) s5
  ·simp only [zZ, zY, yb6, q_b, q_d, q_j, q_s, q_B, q_C, q_W, q_Z, v_ld, v_st, qb_h, qb_o, ev, qb_v, xbin, ibin, if_true, if_false, Nat.reduceEqDiff, Nat.reduceLT, hlt, c1, decide_true, decide_false, fldAk, l4, n128, q1, q2, i1, i2, i3]
   refine ydU (ykk (by rw [hL]; exact d4) rfl) (k / 128) (k % 128) e _ e1 e2 hm 253 ?_
   intro H5 d5 s5 _
   simp only [w3]
   exact fin 253 (by omega) (by omega) (by rw [if_neg (by omega)]) H5 (by rw [hL] at d5; exact d5) s5
 ·rintro fr H4 ⟨L, d4, hL, h8, htb, hz, f4, rfl⟩
  have hn : ((256 : Nat) : Int) = 256 := rfl
  have b4 := f4.bx b3 fun i x hx => (hE i x hx).1
  have r4 := f4.bx r3 fun i x hx => (hE i x hx).2
  have ldn := b4.ldn 3 rfl
  have st5 := r4.stn 3 [.int .i64 T, .int .i64 S, v] rfl rfl (by simp only [List.all_cons, List.all_nil, v1, yaR]; rfl)
  have r6 := r4.set [.int .i64 T, .int .i64 S, v]
  have hcell : ∀ (fr : Fr) (xs : List XRes), fr.get 4 = some (.pointer (some ⟨H.n, 0, none⟩)) -> xress fr (H4.set H.n ⟨[.int .i64 T, .int .i64 S, v], 1, false, false⟩) (.cell 4 (some 3) :: xs) = (xress fr (H4.set H.n ⟨[.int .i64 T, .int .i64 S, v], 1, false, false⟩) xs).map fun vs => .agg #[.int .i64 T, .int .i64 S, v] :: vs := by
   intro fr xs hfr
   rw [ybI fr _ 4 _ 0 (some 3) _ (.agg #[.int .i64 T, .int .i64 S, v]) xs hfr r6.1 rfl]
  subst hTT
  simp only [zZ, zY, hn, yb6, q_b, q_e, q_f, q_h, q_j, q_k, q_m, q_C, q_W, q_Z, v_ld, v_st, qb_h, ev, qb_v, xbin, ibin, qb_A, qb_B, qb_C, resV, qb_D, if_true, if_false, Nat.reduceEqDiff, Nat.reduceLT, Int.lt_irrefl, decide_false, ldn, st5, hcell]
  have hvE : ¬ inB v H.n := fun h => by have := Own.geB d4.own h; omega
  have d5 : Dk H1.n N (H4.set H.n ⟨[.int .i64 T, .int .i64 S, v], 1, false, false⟩) v vs L := d4.set hvE fun i x hx => (hE i x hx).2
  refine hq v vs L _ ?_ hL h8 htb hz ?_
  ·rw [hL]
   exact ⟨d5.len, Own.le d5.own (by omega), fun i x l h1 h2 h3 => Own.le (d5.el i x l h1 h2 h3) (by omega), fun i x l h1 h2 h3 => by have := (List.getElem?_eq_some_iff.1 h3).1; omega, d5.dis, d5.sep⟩
  ·have hge : ∀ (i : Nat) (x : Value), vs[i]? = some x -> ∀ b, inB x b -> H1.n <= b := fun i x hx b hb => by
    have hil : i < N := by
     have h1 := (List.getElem?_eq_some_iff.1 hx).1
     have h2 := d2.len
     rw [List.length_replicate] at h2; omega
    exact d2.ge i x hil hx hb
   have x4 : HExt H1 H4 := Frm.hext f4 hge (x2.trans x3)
   exact (x1.trans x4).trans' (Nat.le_refl _) fun b hb => by rw [AH.get_set, if_neg (by omega)]
def spI (l : List Int) (off : Nat) (ws : List Int) : List Int := l.take off ++ ws ++ l.drop (off + ws.length)
theorem ydK (l : List Int) (off : Nat) (ws : List Int) (h : off + ws.length <= l.length) : (spI l off ws).length = l.length := by
 unfold spI
 simp; omega
theorem ylV {l ws : List Int} (off : Nat) (h : B8 l) (h2 : B8 ws) : B8 (spI l off ws) := by
 intro b hb
 unfold spI at hb
 rcases List.mem_append.1 hb with hb | hb
 ·rcases List.mem_append.1 hb with hb | hb
  ·exact h b (List.mem_of_mem_take hb)
  ·exact h2 b hb
 ·exact h b (List.mem_of_mem_drop hb)
theorem yiz (l : List Int) (off : Nat) (ws : List Int) : splice (l.map (Value.int .u8)) off (ws.map (Value.int .u8)) = (spI l off ws).map (Value.int .u8) := by
 unfold splice spI
 rw [List.map_append, List.map_append, List.map_take, List.map_drop, List.length_map]
theorem yg4 {n0 : Nat} {H : AH} {v : Value} {vs : List Value} {L : List (List Int)} (d : Dk n0 L.length H v vs L) (i : Nat) (x : Value) (l : List Int) (hx : vs[i]? = some x) (hl : L[i]? = some l) (B o c : Nat) (hxe : x = .slice (some ⟨B, o, none⟩) l.length c) (off : Nat) (ws : List Int) (h : off + ws.length <= l.length) :
  ∃ blk, H.get B = some blk /\ blk.ro = false /\ o + l.length <= blk.cells.length /\ Dk n0 L.length (H.set B { blk with cells := splice blk.cells (o + off) (ws.map (Value.int .u8)) }) v vs (L.set i (spI l off ws)) /\ Stp x H x (H.set B { blk with cells := splice blk.cells (o + off) (ws.map (Value.int .u8)) }) /\ OwnB n0 (H.set B { blk with cells := splice blk.cells (o + off) (ws.map (Value.int .u8)) }) x (spI l off ws) := by
 have hil := (List.getElem?_eq_some_iff.1 hl).1
 have ho := d.el i x l hil hx hl
 obtain ⟨_, blk, hb, hro⟩ := ho.2 B o l.length c hxe
 obtain ⟨o2, s2, _, h4⟩ := yen (vs := ws.map (Value.int .u8)) ho off (by rw [List.length_map]; exact h) hxe hb
 have ho' : OwnB n0 (H.set B { blk with cells := splice blk.cells (o + off) (ws.map (Value.int .u8)) }) x (spI l off ws) := by
  unfold OwnB
  rw [ydK l off ws h, <- yiz]
  exact o2
 exact ⟨blk, hb, hro, h4, d.upd i hil x _ hx ho' s2, s2, ho'⟩
def slS (L : List (List Int)) (k : Nat) (ws : List Int) : List (List Int) := L.set (2 + k / 4) (spI (L.getD (2 + k / 4) []) (32 * (k % 4)) ws)
theorem yfi (L : List (List Int)) (k : Nat) (ws : List Int) : (slS L k ws).length = L.length := by simp [slS]
theorem yl0 (L : List (List Int)) (k : Nat) (ws : List Int) (h8 : ∀ l ∈ L, SecOk l) (hk : 2 + k / 4 < L.length) (hw : ws.length <= 32) (hb : B8 ws) : ∀ l ∈ slS L k ws, SecOk l := by
 intro l hl
 rcases List.mem_or_eq_of_mem_set hl with h | rfl
 ·exact h8 l h
 ·rw [yaa (List.getElem?_eq_getElem hk)]
  have := h8 _ (List.getElem_mem hk)
  have hm := Nat.mod_lt k (by omega : 0 < 4)
  exact ⟨by rw [ydK _ _ _ (by rw [this.1]; omega)]; exact this.1, ylV _ this.2 hb⟩
def z32 : List Int := List.replicate 32 0
theorem ykL (n : Nat) : rep n [Value.int .u8 0] = (List.replicate n (0 : Int)).map (Value.int .u8) := by rw [ydL]; simp
def setB (L : List (List Int)) (k j : Nat) (c : Int) : List (List Int) := L.set (2 + k / 4) ((L.getD (2 + k / 4) []).set (32 * (k % 4) + j) c)
theorem ybn (L : List (List Int)) (k j : Nat) (c : Int) : (setB L k j c).length = L.length := by simp [setB]
theorem ydr (L : List (List Int)) (k j : Nat) (c : Int) (h8 : ∀ l ∈ L, SecOk l) (hk : 2 + k / 4 < L.length) (h0 : 0 <= c) (h1 : c < 256) : ∀ l ∈ setB L k j c, SecOk l := by
 intro l hl
 rcases List.mem_or_eq_of_mem_set hl with h | rfl
 ·exact h8 l h
 ·rw [yaa (List.getElem?_eq_getElem hk)]
  have := h8 _ (List.getElem_mem hk)
  exact ⟨by rw [List.length_set]; exact this.1, yoj _ this.2 _ _ h0 h1⟩
def blkP (data : List Int) (k : Nat) : List Int := spI zs128 0 ((data.drop (128 * k)).take 128)
theorem zs_ok : SecOk zs128 := ⟨by simp [zs128], fun b hb => by rw [(List.mem_replicate.1 hb).2]; omega⟩
theorem ykp (data : List Int) (hd : B8 data) (k : Nat) : SecOk (blkP data k) := by
 have hl : ((data.drop (128 * k)).take 128).length <= 128 := List.length_take_le _ _
 exact ⟨by unfold blkP; rw [ydK _ _ _ (by rw [zs_ok.1]; omega)]; exact zs_ok.1, ylV _ zs_ok.2 (yoi hd _ _)⟩
def stepP (at' : Nat) (data l : List Int) (L : List (List Int)) (k : Nat) : List (List Int) :=
 (setT (if k = 0 then setB L at' 20 (l.getD k 0) else setT L (l.getD (k - 1) 0).toNat (l.getD k 0)) (l.getD k 0).toNat 254).set (l.getD k 0).toNat (blkP data k)
def stepsP (at' : Nat) (data l : List Int) (L : List (List Int)) : Nat -> List (List Int)
 | 0 => L
 | k + 1 => stepP at' data l (stepsP at' data l L k) k
def need (n : Nat) : Nat := (n + 127) / 128
def freeP (L : List (List Int)) (n : Nat) : List Int := ((((List.range n).drop 10).filter fun i => tb L i == 255).map fun i => ((i : Nat) : Int))
def entP (L : List (List Int)) (at' : Nat) (nm : List Int) (n : Nat) : List (List Int) := setB (setB (setB (slS L at' nm) at' 20 254) at' 21 ((n / 256 : Nat) : Int)) at' 22 ((n % 256 : Nat) : Int)
def putP (L : List (List Int)) (at' : Nat) (nm data : List Int) : List (List Int) := stepsP at' data ((freeP L L.length).take (need data.length)) (entP L at' nm data.length) (need data.length)
theorem yjj (at' : Nat) (data l : List Int) (L : List (List Int)) (k : Nat) : (stepP at' data l L k).length = L.length := by
 unfold stepP
 rw [List.length_set, ycJ]
 split
 ·exact ybn _ _ _ _
 ·exact ycJ _ _ _
theorem yck (at' : Nat) (data l : List Int) (L : List (List Int)) : ∀ k, (stepsP at' data l L k).length = L.length
 | 0 => rfl
 | k + 1 => by
  show (stepP at' data l (stepsP at' data l L k) k).length = _
  rw [yjj, yck at' data l L k]
theorem yiX (L : List (List Int)) (at' : Nat) (nm : List Int) (n : Nat) : (entP L at' nm n).length = L.length := by unfold entP; rw [ybn, ybn, ybn, yfi]
theorem ykD (at' : Nat) (data l : List Int) (hd : B8 data) (L : List (List Int)) (hN : 10 < L.length) (hN2 : L.length <= 240) (hat : at' < 32) (hl : ∀ i ∈ l, 10 <= i /\ i < (L.length : Int)) (k : Nat) (hk : k < l.length) (h8 : ∀ m ∈ L, SecOk m) : ∀ m ∈ stepP at' data l L k, SecOk m := by
 have hg : ∀ j, j < l.length -> 10 <= l.getD j 0 /\ l.getD j 0 < (L.length : Int) := fun j hj => hl _ (by rw [yaa (List.getElem?_eq_getElem hj)]; exact List.getElem_mem hj)
 have g1 := hg k hk
 have g2 := hg (k - 1) (by omega)
 intro m hm
 unfold stepP at hm
 rcases List.mem_or_eq_of_mem_set hm with h | rfl
 ·refine ygF _ _ 254 ?_ ?_ (by omega) (by omega) m h
  ·split
   ·exact ydr L at' 20 _ h8 (by omega) (by omega) (by omega)
   ·exact ygF L _ _ h8 (by omega) (by omega) (by omega)
  ·split
   ·rw [ybn]; omega
   ·rw [ycJ]; omega
 ·exact ykp data hd k
theorem yji (at' : Nat) (data l : List Int) (hd : B8 data) (L : List (List Int)) (hN : 10 < L.length) (hN2 : L.length <= 240) (hat : at' < 32) (hl : ∀ i ∈ l, 10 <= i /\ i < (L.length : Int)) (h8 : ∀ m ∈ L, SecOk m) : ∀ k, k <= l.length -> ∀ m ∈ stepsP at' data l L k, SecOk m
 | 0, _ => h8
 | k + 1, hk => ykD at' data l hd _ (by rw [yck]; exact hN) (by rw [yck]; exact hN2) hat (by rw [yck]; exact hl) k (by omega) (yji at' data l hd L hN hN2 hat hl h8 k (by omega))
theorem ymL (L : List (List Int)) (h8 : ∀ m ∈ L, SecOk m) (hN : 10 < L.length) (at' : Nat) (hat : at' < 32) (nm : List Int) (hn : B8 nm) (hnl : nm.length <= 20) (n : Nat) (hn2 : n <= 65535) : ∀ m ∈ entP L at' nm n, SecOk m := by
 unfold entP
 refine ydr _ _ _ _ (ydr _ _ _ _ (ydr _ _ _ _ (yl0 L at' nm h8 (by omega) (by omega) hn) (by rw [yfi]; omega) (by omega) (by omega)) (by rw [ybn, yfi]; omega) (by omega) (by omega)) (by rw [ybn, ybn, yfi]; omega) (by omega) (by omega)
theorem ymu (L : List (List Int)) (n : Nat) (i : Int) (h : i ∈ freeP L n) : 10 <= i /\ i < (n : Int) /\ tb L i.toNat = 255 := by
 unfold freeP at h
 obtain ⟨j, hj, rfl⟩ := List.mem_map.1 h
 obtain ⟨h1, h2⟩ := List.mem_filter.1 hj
 obtain ⟨q, hq⟩ := List.getElem?_of_mem h1
 rw [List.getElem?_drop] at hq
 have h3 := (List.getElem?_eq_some_iff.1 hq).1
 rw [List.length_range] at h3
 rw [List.getElem?_range h3] at hq
 have : 10 + q = j := Option.some.inj hq
 exact ⟨by omega, by omega, by rw [Int.toNat_natCast]; simpa using h2⟩
theorem yh7 (L : List (List Int)) (n : Nat) (hn : 10 <= n) : freeP L (n + 1) = freeP L n ++ (if tb L n = 255 then [(n : Int)] else []) := by
 unfold freeP
 rw [List.range_succ, List.drop_append_of_le_length (by simpa using hn), List.filter_append, List.map_append]
 congr 1
 by_cases h : tb L n = 255
 ·rw [if_pos h, List.filter_cons_of_pos (by simpa using h)]; rfl
 ·rw [if_neg h, List.filter_cons_of_neg (by simpa using h)]; rfl
theorem yjF (L : List (List Int)) (n : Nat) (hn : 10 <= n) : ∀ r, ∃ t, freeP L (n + r) = freeP L n ++ t
 | 0 => ⟨[], by simp⟩
 | r + 1 => by
  obtain ⟨t, ht⟩ := yjF L n hn r
  exact ⟨t ++ (if tb L (n + r) = 255 then [((n + r : Nat) : Int)] else []), by rw [<- Nat.add_assoc, yh7 L (n + r) (by omega), ht, List.append_assoc]⟩
theorem yjW {α : Type} (a t : List α) (n : Nat) (h : n <= a.length) : (a ++ t).take n = a.take n := by rw [List.take_append_of_le_length h]
theorem shr8N (n : Nat) : ((n : Nat) : Int).fdiv (2 ^ (min (Int.toNat 8) IntKind.i64.bits)) = ((n / 256 : Nat) : Int) := by
 have : (2 : Int) ^ (min (Int.toNat 8) IntKind.i64.bits) = 256 := by decide
 rw [this, Int.fdiv_eq_ediv_of_nonneg _ (by decide)]; rfl
theorem yc8 (n : Int) (h0 : 0 <= n) (h1 : n < 256) (H : AH) : pConv .u8 (.int .i64 n) H = some (.int .u8 n, H) := by
 show some (Value.int .u8 (IntKind.u8.wrap n), H) = _
 rw [wrU8' n h0 h1]
theorem yjs (n : Nat) (H : AH) : pConv .u8 (.int .i64 (n : Int)) H = some (.int .u8 ((n % 256 : Nat) : Int), H) := by
 show some (Value.int .u8 (IntKind.u8.wrap (n : Int)), H) = _
 rw [wrU8m]; rfl
theorem yf1 {n0 : Nat} {H : AH} {v : Value} {vs : List Value} {L : List (List Int)} (d : Dk n0 L.length H v vs L) (h8 : ∀ l ∈ L, SecOk l) (k j : Nat) (hk : 2 + k / 4 < L.length) (hj : j < 32) (x : Value) (hx : vs[2 + k / 4]? = some x) (B o c c' : Nat) (he : x = .slice (some ⟨B, o, none⟩) 128 c) (h1 : 32 <= c') (h2 : 32 * (k % 4) + c' = c) (b : Int) :
  pIdx 1 (.slice (some ⟨B, o + 32 * (k % 4), none⟩) 32 c') (.int .i64 (j : Int)) H = some (ptrAt x (32 * (k % 4) + j), H) /\ ∀ {Q : Value -> AH -> Prop}, (∀ H', Dk n0 L.length H' v vs (setB L k j b) -> Stp x H x H' -> Q undef H') -> Got (pSt 1 (ptrAt x (32 * (k % 4) + j)) (.int .u8 b) H) Q := by
 have hl := h8 _ (List.getElem_mem hk)
 have hg : L[2 + k / 4]? = some (L[2 + k / 4]'hk) := List.getElem?_eq_getElem hk
 have hm := Nat.mod_lt k (by omega : 0 < 4)
 refine ⟨?_, fun {Q} hq => ?_⟩
 ·subst he
  have a1 : Nat.blt j 32 = true := yjP hj
  have a2 : Nat.ble 32 c' = true := ybF h1
  show (bif Nat.blt j 32 && Nat.ble 32 c' then some (Value.pointer (some ⟨B, o + 32 * (k % 4) + j * 1, none⟩), H) else none) = some (.pointer (some ⟨B, o + (32 * (k % 4) + j), none⟩), H)
  rw [a1, a2, Nat.mul_one, Nat.add_assoc]; rfl
 ·refine ydU d (2 + k / 4) (32 * (k % 4) + j) x _ hx hg (by rw [hl.1]; omega) b ?_
  intro H' d' s' _
  refine hq H' ?_ s'
  unfold setB
  rw [yaa hg]; exact d'
theorem yn2 (vd : Value) (data : List Int) (k : Nat) (H : AH) (n0 : Nat) (hn : n0 <= H.n) (hd : Byts H vd data) (hk : 128 * k <= data.length) :
  ∃ s' H', xslc (H.push ⟨rep 128 [.int .u8 0], 1, false, false⟩) 1 vd (some (.int .i64 ((128 * k : Nat) : Int))) none none = some s' /\ ∃ n, xcopy (H.push ⟨rep 128 [.int .u8 0], 1, false, false⟩) 1 (.slice (some ⟨H.n, 0, none⟩) 128 128) s' = some (.int .i64 n, H') /\ OwnB n0 H' (.slice (some ⟨H.n, 0, none⟩) 128 128) (blkP data k) /\ HExt H H' := by
 have x1 := yab H ⟨rep 128 [.int .u8 0], 1, false, false⟩
 have ob : OwnB H.n (H.push ⟨rep 128 [.int .u8 0], 1, false, false⟩) (.slice (some ⟨H.n, 0, none⟩) 128 128) zs128 := by
  have hp := Own.pushed H (rep 128 [.int .u8 0]) 1 128 false (by rw [yaB]; rfl)
  unfold OwnB
  rw [ydL] at hp
  simpa [ydL, zs128] using hp
 have hd1 : Byts (H.push ⟨rep 128 [.int .u8 0], 1, false, false⟩) vd data := Sl.ext x1 hd
 obtain ⟨s', k1, k2, k3, k4⟩ := yey (lo := some (.int .i64 ((128 * k : Nat) : Int))) (hi := none) (i := 128 * k) (h := data.length) hd1 rfl rfl hk (Nat.le_refl _)
 have k2' : Byts (H.push ⟨rep 128 [.int .u8 0], 1, false, false⟩) s' (data.drop (128 * k)) := by
  unfold Byts
  rw [List.length_drop, List.map_drop]
  rw [Nat.mul_one, Nat.mul_one, List.take_of_length_le (by simp)] at k2
  exact k2
 obtain ⟨hm1, _⟩ := ykF k2' (yjS _)
 have hgb : (H.push ⟨rep 128 [.int .u8 0], 1, false, false⟩).get H.n = some ⟨rep 128 [.int .u8 0], 1, false, false⟩ := by rw [AH.get_push, if_pos rfl]
 have hcells : (rep 128 [Value.int .u8 0]).length = 128 := by rw [yaB]; rfl
 have hsrc : src (H.push ⟨rep 128 [.int .u8 0], 1, false, false⟩) 1 (Nat.min (data.drop (128 * k)).length 128) (srcV s' (Nat.min (data.drop (128 * k)).length 128)) = some (((data.drop (128 * k)).take 128).map (Value.int .u8)) := by
  rw [ykE k2' _ (Nat.min_le_left _ _)]
  congr 2
  rcases Nat.le_total (data.drop (128 * k)).length 128 with h | h
  ·rw [Nat.min_eq_left h, List.take_of_length_le h, List.take_of_length_le (Nat.le_refl _)]
  ·rw [Nat.min_eq_right h]
 have xc := yeP (sz := 1) (c := 128) (l := 128) (o := 0) hm1 hgb rfl (by show 0 + 128 * 1 <= _; rw [hcells]; decide) hsrc
 obtain ⟨o2, s2, _, _⟩ := yen (vs := ((data.drop (128 * k)).take 128).map (Value.int .u8)) ob 0 (by rw [List.length_map, zs_ok.1]; have := List.length_take_le 128 (data.drop (128 * k)); omega) (c := 128) (o := 0) (by rw [zs_ok.1]) hgb
 refine ⟨s', _, k1, _, xc, ?_, x1.trans' s2.n fun b hb => s2.get b (by show b < H.n + 1; omega) fun ⟨o, l, c, e⟩ => by (cases e; omega)⟩
 have : OwnB H.n ((H.push ⟨rep 128 [.int .u8 0], 1, false, false⟩).set H.n ⟨splice (rep 128 [.int .u8 0]) (0 + 0) (((data.drop (128 * k)).take 128).map (Value.int .u8)), 1, false, false⟩) (.slice (some ⟨H.n, 0, none⟩) 128 128) (blkP data k) := by
  unfold OwnB
  have e : (blkP data k).length = zs128.length := by rw [(show (blkP data k).length = 128 from by unfold blkP; rw [ydK _ _ _ (by rw [zs_ok.1]; have := List.length_take_le 128 (data.drop (128 * k)); omega)]; exact zs_ok.1), zs_ok.1]
  rw [e]
  unfold blkP
  rw [<- yiz]
  exact o2
 exact Own.le this hn
theorem yeF (n k : Nat) : k < need n ↔ k * 128 < n := by unfold need; omega
theorem ykU (n : Nat) (h : n <= 65535) : need n <= 512 := by unfold need; omega
structure SepL (vl w : Value) (vs : List Value) : Prop where
 v : ∀ b, inB vl b -> ¬ inB w b
 x : ∀ (i : Nat) (y : Value), vs[i]? = some y -> ∀ b, inB vl b -> ¬ inB y b
theorem SepL.frm {vl w : Value} {vs : List Value} {H H' : AH} {l : List Int} (h : SepL vl w vs) (f : Frm vs H H') (hi : Ints H vl l) : Ints H' vl l := Sl.same hi f.n fun b hb => f.get b (hi.lt b hb) fun i y hy => h.x i y hy b hb
theorem yfZ {n0 : Nat} {vs : List Value} {A B : AH} (f : Frm vs A B) (hge : ∀ (i : Nat) (x : Value), vs[i]? = some x -> ∀ b, inB x b -> n0 <= b) (hn : n0 <= A.n) : Keep n0 A B := ⟨f.n, fun b hb => f.get b (by omega) fun i x hx hin => by have := hge i x hx b hin; omega⟩
set_option maxHeartbeats 8000000 in
theorem ypM (T S : Int) (w vd vl s' x0 : Value) (n0 at' E3 E6 : Nat) (L : List (List Int)) (l data : List Int) (H0 Hb : AH) (vs0 : List Value) (Q : XExit -> Fr -> AH -> Prop) (B o c c' : Nat)
  (d : Dk n0 L.length Hb w vs0 L) (h8 : ∀ l ∈ L, SecOk l) (hN : 10 < L.length) (hN2 : L.length <= 240) (hat : at' < 32) (hd8 : B8 data) (hn0 : n0 <= Hb.n) (hH0 : H0.n <= n0) (x0b : HExt H0 Hb) (hd : Byts H0 vd data)
  (b3 : Bx Hb E3 [.int .i64 T, .int .i64 S, w]) (hE3 : E3 < n0) (hll : l.length = need data.length) (hl : ∀ i ∈ l, 10 <= i /\ i < (L.length : Int)) (hln : l.length <= 512) (hvl : Ints Hb vl l) (sep : SepL vl w vs0)
  (hx0 : vs0[2 + at' / 4]? = some x0) (hxe : x0 = .slice (some ⟨B, o, none⟩) 128 c) (hse : s' = .slice (some ⟨B, o + 32 * (at' % 4), none⟩) 32 c') (g1 : 32 <= c') (g2 : 32 * (at' % 4) + c' = c)
  (hq : ∀ vs' H' fr, Dk n0 L.length H' w vs' (stepsP at' data l L l.length) -> Keep n0 Hb H' -> fr = [(2, vd), (3, .pointer (some ⟨E3, 0, none⟩)), (6, .pointer (some ⟨E6, 0, none⟩)), (10, vl), (12, s'), (107, vl), (108, .int .i64 (l.length : Int)), (109, .int .i64 (l.length : Int)), (110, .bool false)] -> Q (.exit 4) fr H') :
  Run Tryz.prog tab (.loop yb5) [(2, vd), (3, .pointer (some ⟨E3, 0, none⟩)), (6, .pointer (some ⟨E6, 0, none⟩)), (10, vl), (12, s'), (107, vl), (108, .int .i64 (l.length : Int)), (109, .int .i64 0)] Hb Q := by
 refine yaz (fun k fr H' => ∃ vs, Dk n0 L.length H' w vs (stepsP at' data l L k) /\ Keep n0 Hb H' /\ Ints H' vl l /\ SepL vl w vs /\ vs[2 + at' / 4]? = some x0 /\ fr = [(2, vd), (3, .pointer (some ⟨E3, 0, none⟩)), (6, .pointer (some ⟨E6, 0, none⟩)), (10, vl), (12, s'), (107, vl), (108, .int .i64 (l.length : Int)), (109, .int .i64 (k : Int))]) l.length ⟨vs0, d, Keep.refl _ _, hvl, sep, hx0, rfl⟩ ?_ ?_
 ·rintro k hk fr H1 ⟨vs, d1, k1, hvl1, sep1, hx1, rfl⟩ J hJ
  have hLk : (stepsP at' data l L k).length = L.length := yck at' data l L k
  have h8k := yji at' data l hd8 L hN hN2 hat hl h8 k (by omega)
  have hstep : stepsP at' data l L (k + 1) = stepP at' data l (stepsP at' data l L k) k := rfl
  generalize hLL : stepsP at' data l L k = L1 at *
  have dl : Dk n0 L1.length H1 w vs L1 := by rw [hLk]; exact d1
  have hge := fun i x hx b hb => dl.geAll i x hx b hb
  obtain ⟨i, hi⟩ : ∃ i, l[k]? = some i := ⟨_, List.getElem?_eq_getElem hk⟩
  have hr := hl i (List.mem_of_getElem? hi)
  obtain ⟨q, rfl⟩ : ∃ q : Nat, i = (q : Int) := ⟨i.toNat, by omega⟩
  have hgk : l.getD k 0 = (q : Int) := yaa hi
  have i1 := ydT hvl1 (k : Int) k rfl hk
  have i2 := yeH hvl1 k _ hi
  have hlt : (k : Int) < (l.length : Int) := by omega
  have w3 := wrS k (by omega)
  have b31 : Bx H1 E3 [.int .i64 T, .int .i64 S, w] := b3.keep k1 hE3
  have hkd : 128 * k <= data.length := by have := (yeF data.length k).1 (by omega); omega
  have w128 : IntKind.i64.wrap ((k : Int) * 128) = ((128 * k : Nat) : Int) := by rw [wrI _ (by omega) (by omega)]; omega
  have mid : ∀ (L2 : List (List Int)) (H2 : AH), L2.length = L.length -> (∀ m ∈ L2, SecOk m) -> Dk n0 L2.length H2 w vs L2 -> Keep n0 Hb H2 -> Ints H2 vl l -> stepsP at' data l L (k + 1) = (setT L2 q 254).set q (blkP data k) ->
    Run Tryz.prog tab (.seq (.ops [⟨some 128, .ld (some 3) (.tmp 3), none⟩, ⟨some 129, .mov (.tmp 14), none⟩, ⟨some 130, .call 99 [.tmp 128, .tmp 129, .const (.int .i64 254)], none⟩] [2, 3, 6, 10, 12, 13, 14, 107, 108, 109]) (.seq (.ops [⟨some 131, .mks 5 1 1 [.int .u8 0] (.const (.int .i64 128)) (.const (.int .i64 128)), none⟩, ⟨some 15, .mov (.tmp 131), none⟩] [2, 3, 6, 10, 12, 13, 14, 15, 107, 108, 109]) (.seq (.ops [⟨some 132, .mov (.tmp 15), none⟩, ⟨some 133, .mov (.tmp 2), none⟩, ⟨some 134, .mov (.tmp 13), none⟩, ⟨some 135, .bin .mul (.tmp 134) (.const (.int .i64 128)), none⟩, ⟨some 136, .slc 1 (.tmp 133) (some (.tmp 135)) none none, none⟩, ⟨some 137, .copy 1 (.tmp 132) (.tmp 136), none⟩] [2, 3, 6, 10, 12, 14, 15, 107, 108, 109]) (.ops [⟨some 138, .fldA 2 (.tmp 3), none⟩, ⟨some 139, .ld none (.tmp 138), none⟩, ⟨some 140, .mov (.tmp 14), none⟩, ⟨some 141, .mov (.tmp 15), none⟩, ⟨some 142, .idxA 1 (.tmp 139) (.tmp 140), none⟩, ⟨none, .st 1 (.tmp 142) (.tmp 141), none⟩] [2, 3, 6, 10, 12, 107, 108, 109])))) [(2, vd), (3, .pointer (some ⟨E3, 0, none⟩)), (6, .pointer (some ⟨E6, 0, none⟩)), (10, vl), (12, s'), (13, .int .i64 (k : Int)), (14, .int .i64 (q : Int)), (107, vl), (108, .int .i64 (l.length : Int)), (109, .int .i64 (k : Int))] H2 (blockQ 5 (thenQ (fun fr H => Run Tryz.prog tab (.ops [⟨some 143, .bin .add (.tmp 109) (.const (.int .i64 1)), none⟩, ⟨some 109, .mov (.tmp 143), none⟩] [2, 3, 6, 10, 12, 107, 108, 109]) fr H J) J)) := by
   intro L2 H2 hL2 h82 d2 k2 hvl2 heq
   have b32 : Bx H2 E3 [.int .i64 T, .int .i64 S, w] := b3.keep k2 hE3
   have ldn2 := b32.ldn 3 rfl
   simp only [zZ, zY, q_j, q_L, q_M, q_N, Bool.false_and, zD, cond_false, q_U, q_W, q_Z, v_ld, v_st, qb_e, qb_h, qb_k, qb_l, ev, qb_p, qb_q, qb_v, xbin, ibin, if_true, if_false, Nat.reduceEqDiff, Nat.reduceLT, ldn2]
   refine yn9 T S w vs L2 n0 q 254 H2 _ d2 h82 (by omega) (by omega) (by omega) (by omega) ?_
   intro H3 u d3 f3
   have k3 : Keep n0 Hb H3 := Keep.trans k2 (yfZ f3 hge (by have := k2.1; omega))
   have hvl3 := sep1.frm f3 hvl2
   have x03 : HExt H0 H3 := x0b.trans' k3.1 fun b hb => k3.2 b (by omega)
   have hmk := ydQ (.int .u8 0) 128 (by omega) .i64 H3 128 rfl
   obtain ⟨sd, H4, e1, n4, e2, ob, x4⟩ := yn2 vd data k H3 n0 (by have := k3.1; omega) (Sl.ext x03 hd) hkd
   have b34 := (b3.keep k3 hE3).ext x4
   have l4 := b34.ld 2 w rfl
   have d4 := d3.ext x4
   have hq1 : q < (setT L2 q 254).length := by rw [ycJ]; omega
   have iw := yau d4.own.1 .i64 (q : Int) q rfl hq1
   obtain ⟨y1, y2⟩ := yan ob.1
   have e128 : ∀ b, inB (Value.slice (some ⟨H3.n, 0, none⟩) 128 128) b -> b = H3.n := fun b ⟨o, l, c, e⟩ => by cases e; rfl
   simp only [q_q, zC, hmk, w128, e1, e2, fldAk, l4, iw]
   refine yfm (j := q) d4.own (by rw [d4.len]; exact hq1) y1 y2 ?_
   intro H5 o5 s5
   have d5 := d4.repl q (by rw [hL2]; omega) hq1 (.slice (some ⟨H3.n, 0, none⟩) 128 128) (blkP data k) ob (fun b hb hb2 => by have := e128 b hb; have := d3.own.1.lt hb2; omega) (fun j z hz b hb hb2 => by have := e128 b hb; have := d3.lt j z hz hb2; omega) o5 s5
   have hmax : max L2.length (q + 1) = L.length := by rw [hL2]; omega
   rw [hmax, <- heq] at d5
   have wge : ∀ b, inB w b -> n0 <= b := fun b hb => Own.geB d4.own hb
   simp only [w3]
   refine hJ _ _ ⟨_, d5, ?_, ?_, ⟨sep1.v, fun j y hy b hb => ?_⟩, ?_, rfl⟩
   ·refine ⟨by have := k3.1; have := x4.1; have := s5.n; omega, fun b hb => ?_⟩
    have h3 := k3.1
    exact (s5.get b (by have := x4.1; omega) fun h => by have := wge b h; omega).trans ((x4.2 b (by omega)).trans (k3.2 b hb))
   ·have hvl4 : Ints H4 vl l := Sl.ext x4 hvl3
    exact Sl.same hvl4 s5.n fun b hb => s5.get b (hvl4.lt b hb) (sep1.v b hb)
   ·by_cases hqj : q = j
    ·subst hqj
     rw [List.getElem?_set, if_pos rfl, if_pos (by rw [d4.len]; exact hq1)] at hy
     cases hy
     intro hy2
     have := e128 b hy2
     have := hvl3.lt b hb
     omega
    ·exact sep1.x j y (ybk hqj hy) b hb
   ·rw [List.getElem?_set_ne (by omega)]; exact hx1
  unfold yb5
  generalize hM : ((.seq (.ops [⟨some 128, .ld (some 3) (.tmp 3), none⟩, ⟨some 129, .mov (.tmp 14), none⟩, ⟨some 130, .call 99 [.tmp 128, .tmp 129, .const (.int .i64 254)], none⟩] [2, 3, 6, 10, 12, 13, 14, 107, 108, 109]) (.seq (.ops [⟨some 131, .mks 5 1 1 [.int .u8 0] (.const (.int .i64 128)) (.const (.int .i64 128)), none⟩, ⟨some 15, .mov (.tmp 131), none⟩] [2, 3, 6, 10, 12, 13, 14, 15, 107, 108, 109]) (.seq (.ops [⟨some 132, .mov (.tmp 15), none⟩, ⟨some 133, .mov (.tmp 2), none⟩, ⟨some 134, .mov (.tmp 13), none⟩, ⟨some 135, .bin .mul (.tmp 134) (.const (.int .i64 128)), none⟩, ⟨some 136, .slc 1 (.tmp 133) (some (.tmp 135)) none none, none⟩, ⟨some 137, .copy 1 (.tmp 132) (.tmp 136), none⟩] [2, 3, 6, 10, 12, 14, 15, 107, 108, 109]) (.ops [⟨some 138, .fldA 2 (.tmp 3), none⟩, ⟨some 139, .ld none (.tmp 138), none⟩, ⟨some 140, .mov (.tmp 14), none⟩, ⟨some 141, .mov (.tmp 15), none⟩, ⟨some 142, .idxA 1 (.tmp 139) (.tmp 140), none⟩, ⟨none, .st 1 (.tmp 142) (.tmp 141), none⟩] [2, 3, 6, 10, 12, 107, 108, 109])))) : XCode) = M at mid
  generalize hI : ((.ops [⟨some 143, .bin .add (.tmp 109) (.const (.int .i64 1)), none⟩, ⟨some 109, .mov (.tmp 143), none⟩] [2, 3, 6, 10, 12, 107, 108, 109]) : XCode) = I at mid
  by_cases k0 : k = 0
  ·have c0 : ((k : Int) == 0) = true := by subst k0; rfl
   obtain ⟨e1, e2⟩ := yf1 dl h8k at' 20 (by omega) (by omega) x0 hx1 B o c c' hxe g1 g2 (q : Int)
   have cv := fun H => yc8 (q : Int) (by omega) (by omega) H
   rw [<- hse] at e1
   have e1' : pIdx 1 s' (.int .i64 20) H1 = some (ptrAt x0 (32 * (at' % 4) + 20), H1) := e1
   simp only [zZ, zY, q_b, q_d, q_B, q_W, q_Z, v_ld, v_st, qb_f, ev, qb_v, xbin, ibin, if_true, if_false, Nat.reduceEqDiff, Nat.reduceLT, hlt, decide_true, i1, i2, c0, cv, e1']
   refine e2 ?_
   intro H2 d2 s2
   have f2 := Frm.stp hx1 s2
   refine mid (setB L1 at' 20 (q : Int)) H2 (by rw [ybn]; exact hLk) (ydr L1 at' 20 _ h8k (by omega) (by omega) (by omega)) (by rw [ybn]; exact d2) (Keep.trans k1 (yfZ f2 hge (by have := k1.1; omega))) (sep1.frm f2 hvl1) ?_
   rw [hstep]
   unfold stepP
   rw [if_pos k0, hgk, Int.toNat_natCast]
  ·have c0 : ((k : Int) == 0) = false := by simp; omega
   obtain ⟨j, hj⟩ : ∃ j, l[k - 1]? = some j := ⟨_, List.getElem?_eq_getElem (by omega)⟩
   have hr2 := hl j (List.mem_of_getElem? hj)
   obtain ⟨p, rfl⟩ : ∃ p : Nat, j = (p : Int) := ⟨j.toNat, by omega⟩
   have wk : IntKind.i64.wrap ((k : Int) - 1) = ((k - 1 : Nat) : Int) := by rw [wrI _ (by omega) (by omega)]; omega
   have j1 := ydT hvl1 ((k - 1 : Nat) : Int) (k - 1) rfl (by omega)
   have j2 := yeH hvl1 (k - 1) _ hj
   have ldn1 := b31.ldn 3 rfl
   simp only [zZ, zY, q_b, q_d, q_B, q_C, q_W, q_Z, v_ld, ev, xbin, ibin, if_true, if_false, Nat.reduceEqDiff, Nat.reduceLT, hlt, decide_true, i1, i2, c0]
   refine yaL _ _ _ _ _ rfl ?_
   simp only [zZ, zY, q_S, q_T, q_U, q_W, q_Z, v_ld, ev, qb_p, qb_q, xbin, ibin, if_true, if_false, Nat.reduceEqDiff, Nat.reduceLT, ldn1, wk, j1, j2]
   refine yn9 T S w vs L1 n0 p (q : Int) H1 _ dl h8k (by omega) (by omega) (by omega) (by omega) ?_
   intro H2 u d2 f2
   refine mid (setT L1 p (q : Int)) H2 (by rw [ycJ]; exact hLk) (ygF L1 p _ h8k (by omega) (by omega) (by omega)) (by rw [ycJ]; exact d2) (Keep.trans k1 (yfZ f2 hge (by have := k1.1; omega))) (sep1.frm f2 hvl1) ?_
   rw [hstep]
   unfold stepP
   rw [if_neg k0, hgk, Int.toNat_natCast, yaa hj, Int.toNat_natCast]
 ·rintro fr H1 ⟨vs, d1, k1, hvl1, sep1, hx1, rfl⟩
  simp only [zZ, zY, yb5, q_b, q_e, q_h, q_j, q_C, q_L, q_M, q_N, Bool.false_and, zD, cond_false, q_U, q_W, q_Z, v_ld, v_st, qb_e, qb_h, qb_k, qb_l, ev, qb_p, qb_q, qb_v, xbin, ibin, if_true, if_false, Nat.reduceEqDiff, Nat.reduceLT, Int.lt_irrefl, decide_false]
  exact hq vs H1 _ d1 k1 rfl
set_option maxHeartbeats 8000000 in
theorem ypN (T S : Int) (w vd : Value) (str : Value) (at' E3 E6 : Nat) (L : List (List Int)) (data : List Int) (Hs : AH) (Q : XExit -> Fr -> AH -> Prop) (hs : Secs Hs w L) (h8 : ∀ l ∈ L, SecOk l) (hN : 10 < L.length) (hN2 : L.length <= 240)
  (b3 : Bx Hs E3 [.int .i64 T, .int .i64 S, w]) (hd : Byts Hs vd data) (hdl : data.length <= 65535)
  (hq : ∀ vl H' (x11 : Value), HExt Hs H' -> OwnI Hs.n H' vl ((freeP L L.length).take (need data.length)) -> Q (.exit 2) [(1, str), (2, vd), (3, .pointer (some ⟨E3, 0, none⟩)), (6, .pointer (some ⟨E6, 0, none⟩)), (9, .int .i64 (at' : Int)), (10, vl), (11, x11), (70, .bool false)] H') :
  Run Tryz.prog tab (.loop ybJ) [(1, str), (2, vd), (3, .pointer (some ⟨E3, 0, none⟩)), (6, .pointer (some ⟨E6, 0, none⟩)), (9, .int .i64 (at' : Int)), (10, .slice none 0 0), (11, .int .i64 10)] Hs Q := by
 have hnb := ykU data.length hdl
 refine ybo (fun k fr H' => ∃ vl, HExt Hs H' /\ OwnI Hs.n H' vl ((freeP L (10 + k)).take (need data.length)) /\ fr = [(1, str), (2, vd), (3, .pointer (some ⟨E3, 0, none⟩)), (6, .pointer (some ⟨E6, 0, none⟩)), (9, .int .i64 (at' : Int)), (10, vl), (11, .int .i64 ((10 + k : Nat) : Int))])
  (fun e fr H' => e = .exit 2 /\ ∃ vl x11, HExt Hs H' /\ OwnI Hs.n H' vl ((freeP L L.length).take (need data.length)) /\ fr = [(1, str), (2, vd), (3, .pointer (some ⟨E3, 0, none⟩)), (6, .pointer (some ⟨E6, 0, none⟩)), (9, .int .i64 (at' : Int)), (10, vl), (11, x11), (70, .bool false)])
  (L.length - 10) ⟨_, HExt.refl Hs, ?_, rfl⟩ ?_ ?_ (fun _ _ h => by cases h.1) ?_
 ·have : freeP L (10 + 0) = [] := by
   unfold freeP
   rw [List.drop_eq_nil_of_le (by simp)]; rfl
  rw [this, List.take_nil]
  exact Own.nil _ _ _
 ·rintro k hk fr H1 ⟨vl, x1, o1, rfl⟩ J hJ hR
  have hlt : ((10 + k : Nat) : Int) < (L.length : Int) := by omega
  have b31 := b3.ext x1
  have l1 := b31.ld 2 w rfl
  have hs1 := Secs.ext x1 hs
  have hv1 := hs1.len
  have lv := yct o1.1
  have lm : ((freeP L (10 + k)).take (need data.length)).length <= 512 := by have := List.length_take_le (need data.length) (freeP L (10 + k)); omega
  have ld := yaY (Sl.ext x1 hd : Byts H1 vd data)
  have ldn := b31.ldn 3 rfl
  have w3 := wrS (10 + k) (by omega)
  generalize hl : (freeP L (10 + k)).take (need data.length) = l at *
  have wm := wrI ((l.length : Int) * 128) (by omega) (by omega)
  by_cases c : (l.length : Int) * 128 < (data.length : Int)
  ·have hlen : l.length < need data.length := (yeF _ _).2 (by omega)
   have hfl : l = freeP L (10 + k) := by
    rw [<- hl, List.take_of_length_le]
    rw [<- hl, List.length_take] at hlen
    omega
   simp only [zZ, zY, ybJ, q_b, q_d, q_r, q_B, q_U, q_W, q_X, v_ld, qb_h, qb_o, ev, qb_p, qb_q, xbin, ibin, if_true, if_false, Nat.reduceEqDiff, Nat.reduceLT, fldAk, l1, hv1, hlt, decide_true, lv, wm, ld, c, ldn]
   refine yeZ T S w L (10 + k) H1 _ hs1 h8 (by omega) (by omega) ?_
   intro H2 x2
   have hsucc := yh7 L (10 + k) (by omega)
   by_cases ct : tb L (10 + k) = 255
   ·have cb : (tb L (10 + k) == 255) = true := by simpa using ct
    rw [if_pos ct, <- hfl] at hsucc
    have x3 := yab H2 ⟨[.int .i64 ((10 + k : Nat) : Int)], 1, false, false⟩
    have o3 : OwnI Hs.n (H2.push ⟨[.int .i64 ((10 + k : Nat) : Int)], 1, false, false⟩) vl l := Own.ext (x2.trans x3) o1
    simp only [zZ, zY, q_j, q_B, qb_a, qb_d, pBs1, ev, if_true, if_false, Nat.reduceEqDiff, Nat.reduceLT, cb]
    refine yc4 o3 (by have := x1.1; have := x2.1; have := x3.1; omega) (Sl.pushed H2 [.int .i64 ((10 + k : Nat) : Int)] 1 1 false false rfl) rfl (by decide) (by decide) (by omega) ?_
    intro vl' H4 o4 s4
    have k4 := s4.keep o3 (by have := x1.1; have := x2.1; have := x3.1; omega)
    simp only [w3]
    refine hJ _ _ ⟨vl', (x1.trans (x2.trans x3)).trans' k4.1 (fun b hb => k4.2 b hb), ?_, rfl⟩
    rw [show 10 + (k + 1) = 10 + k + 1 by omega, hsucc, List.take_of_length_le (by simp; omega)]
    unfold OwnI
    simpa using o4
   ·have cb : (tb L (10 + k) == 255) = false := by simpa using ct
    rw [if_neg ct, List.append_nil] at hsucc
    simp only [zZ, zY, q_d, q_j, q_C, ev, if_true, if_false, Nat.reduceEqDiff, Nat.reduceLT, cb, w3]
    refine hJ _ _ ⟨vl, x1.trans x2, ?_, rfl⟩
    rw [show 10 + (k + 1) = 10 + k + 1 by omega, hsucc, hl]
    exact Own.ext x2 o1
  ·simp only [zZ, zY, ybJ, q_b, q_e, q_h, q_r, q_C, q_U, q_W, q_X, v_ld, qb_h, qb_o, ev, qb_p, qb_q, xbin, ibin, if_true, if_false, Nat.reduceEqDiff, Nat.reduceLT, fldAk, l1, hv1, hlt, decide_true, lv, wm, ld, c, decide_false]
   refine hR _ _ _ ⟨rfl, vl, _, x1, ?_, rfl⟩
   have hge : ¬ l.length < need data.length := fun h => by have := (yeF _ _).1 h; omega
   have hle : need data.length <= (freeP L (10 + k)).length := by
    rw [<- hl, List.length_take] at hge
    omega
   obtain ⟨t, ht⟩ := yjF L (10 + k) (by omega) (L.length - (10 + k))
   rw [show 10 + k + (L.length - (10 + k)) = L.length by omega] at ht
   rw [ht, yjW _ _ _ hle, hl]
   exact o1
 ·rintro e fr H1 _ ⟨rfl, vl, x11, x1, o1, rfl⟩
  exact hq vl H1 x11 x1 o1
 ·rintro fr H1 ⟨vl, x1, o1, rfl⟩
  have hj : 10 + (L.length - 10) = L.length := by omega
  rw [hj] at o1 ⊢
  have l1 := (b3.ext x1).ld 2 w rfl
  have hv1 := (Secs.ext x1 hs).len
  simp only [zZ, zY, ybJ, q_b, q_e, q_h, q_s, q_C, q_U, q_W, q_X, v_ld, qb_h, qb_o, ev, qb_p, qb_q, xbin, ibin, if_true, if_false, Nat.reduceEqDiff, Nat.reduceLT, fldAk, l1, hv1, Int.lt_irrefl, decide_false]
  exact hq vl H1 _ x1 o1
set_option maxHeartbeats 8000000 in
theorem ynr (T S : Int) (w vd : Value) (n0 at' E3 E6 : Nat) (L : List (List Int)) (s data : List Int) (H0 Hs : AH) (vs : List Value) (Q : Value -> AH -> Prop)
  (d : Dk n0 L.length Hs w vs L) (h8 : ∀ l ∈ L, SecOk l) (hN : 10 < L.length) (hN2 : L.length <= 240) (hat : at' < 32) (hd8 : B8 data) (hs8 : B8 s) (hsl : s.length <= 20) (hdl : data.length <= 65535) (hn0 : n0 <= Hs.n) (hH0 : H0.n <= n0) (x0b : HExt H0 Hs) (hd : Byts H0 vd data)
  (b3 : Bx Hs E3 [.int .i64 T, .int .i64 S, w]) (hE3 : E3 < n0) (b6 : Bx Hs E6 [.int .i64 0, .int .i64 0, .slice none 0 0]) (hE6 : E6 < n0) (hE60 : H0.n <= E6) (hfree : need data.length <= (freeP L L.length).length)
  (hq : ∀ vs' H', Dk n0 L.length H' w vs' (putP L at' s data) -> HExt H0 H' -> Q (.tuple [.agg #[.int .i64 T, .int .i64 S, w], .int .i64 0].toArray) H') :
  Run Tryz.prog tab (.seq (.seq (.ops [⟨some 11, .mov (.const (.int .i64 10)), none⟩] [1, 2, 3, 6, 9, 10, 11]) (.block 2 (.loop ybJ))) (.seq (.seq (.ops [⟨some 81, .mov (.tmp 10), none⟩, ⟨some 82, .len (.tmp 81), none⟩, ⟨some 83, .bin .mul (.tmp 82) (.const (.int .i64 128)), none⟩, ⟨some 84, .mov (.tmp 2), none⟩, ⟨some 85, .len (.tmp 84), none⟩, ⟨some 86, .bin .lss (.tmp 83) (.tmp 85), none⟩] [1, 2, 3, 6, 9, 10, 86]) (.cond (.tmp 86) (.seq (.ops [⟨some 87, .build [.int .i64 0, .int .i64 0, .slice none 0 0] [], none⟩, ⟨none, .st 3 (.tmp 6) (.tmp 87), none⟩, ⟨some 7, .mov (.const (.int .i64 6)), none⟩] [6, 7]) .ret) .skip)) (.seq (.ops [⟨some 88, .ld (some 3) (.tmp 3), none⟩, ⟨some 89, .mov (.tmp 9), none⟩, ⟨some 90, .call 65 [.tmp 88, .tmp 89], none⟩, ⟨some 12, .mov (.tmp 90), none⟩] [1, 2, 3, 6, 10, 12]) (.seq (.ops [⟨some 91, .mov (.tmp 12), none⟩, ⟨some 92, .mov (.tmp 1), none⟩, ⟨some 93, .copy 1 (.tmp 91) (.tmp 92), none⟩] [2, 3, 6, 10, 12]) (.seq (.ops [⟨some 94, .mov (.tmp 12), none⟩, ⟨some 95, .mov (.tmp 12), none⟩, ⟨some 96, .mov (.tmp 12), none⟩, ⟨some 97, .mov (.tmp 2), none⟩, ⟨some 98, .len (.tmp 97), none⟩, ⟨some 99, .bin .shr (.tmp 98) (.const (.int .u64 8)), none⟩, ⟨some 100, .conv .u8 (.tmp 99), none⟩, ⟨some 101, .mov (.tmp 2), none⟩, ⟨some 102, .len (.tmp 101), none⟩, ⟨some 103, .conv .u8 (.tmp 102), none⟩, ⟨some 104, .idxA 1 (.tmp 94) (.const (.int .i64 20)), none⟩, ⟨none, .st 1 (.tmp 104) (.const (.int .u8 254)), none⟩, ⟨some 105, .idxA 1 (.tmp 95) (.const (.int .i64 21)), none⟩, ⟨none, .st 1 (.tmp 105) (.tmp 100), none⟩, ⟨some 106, .idxA 1 (.tmp 96) (.const (.int .i64 22)), none⟩, ⟨none, .st 1 (.tmp 106) (.tmp 103), none⟩] [2, 3, 6, 10, 12]) (.seq (.seq (.ops [⟨some 107, .mov (.tmp 10), none⟩, ⟨some 108, .len (.tmp 107), none⟩, ⟨some 109, .mov (.const (.int .i64 0)), none⟩] [2, 3, 6, 10, 12, 107, 108, 109]) (.block 4 (.loop yb5))) (.seq (.ops [⟨some 144, .ld (some 3) (.tmp 3), none⟩, ⟨none, .st 3 (.tmp 6) (.tmp 144), none⟩, ⟨some 7, .mov (.const (.int .i64 0)), none⟩] [6, 7]) .ret))))))) [(1, .string (sB s)), (2, vd), (3, .pointer (some ⟨E3, 0, none⟩)), (6, .pointer (some ⟨E6, 0, none⟩)), (9, .int .i64 (at' : Int)), (10, .slice none 0 0)] Hs (retQ [XRes.cell 6 (some 3), XRes.tmp 7] Q) := by
 have hnb := ykU data.length hdl
 generalize hTT : ((.seq (.seq (.ops (⟨some 81, _, _⟩ :: _) _) _) _) : XCode) = TT
 simp only [zZ, zY, q_b, ev, if_true, if_false, Nat.reduceEqDiff, Nat.reduceLT]
 refine ypN T S w vd _ at' E3 E6 L data Hs _ d.secs h8 hN hN2 b3 (Sl.ext x0b hd) hdl ?_
 intro vl H1 x11 x1 ol
 have hln : ((freeP L L.length).take (need data.length)).length = need data.length := by rw [List.length_take]; omega
 have hlm : ∀ i ∈ (freeP L L.length).take (need data.length), 10 <= i /\ i < (L.length : Int) := fun i hi => by
  have := ymu L L.length i (List.mem_of_mem_take hi)
  exact ⟨this.1, this.2.1⟩
 have hput : putP L at' s data = stepsP at' data ((freeP L L.length).take (need data.length)) (entP L at' s data.length) (need data.length) := rfl
 generalize (freeP L L.length).take (need data.length) = l at *
 have lv := yct ol.1
 have x01 := x0b.trans x1
 have ld := yaY (Sl.ext x01 hd : Byts H1 vd data)
 have wm := wrI ((l.length : Int) * 128) (by omega) (by omega)
 have cf : ¬ (l.length : Int) * 128 < (data.length : Int) := fun h => by
  have := (yeF data.length l.length).2 (by omega)
  omega
 have ldn1 := (b3.ext x1).ldn 3 rfl
 have hkL : 2 + at' / 4 < L.length := by omega
 have xA := yab H1 ⟨[.int .i64 T, .int .i64 S, w], 1, false, false⟩
 have dA := (d.ext x1).ext xA
 obtain ⟨e, e1, e2⟩ := dA.get2 (2 + at' / 4) hkL
 have i1 := yau dA.own.1 .i64 ((2 + at' / 4 : Nat) : Int) (2 + at' / 4) rfl hkL
 have i2 := yaV dA.own.1 (2 + at' / 4) e e1
 have hl128 := (h8 _ (List.getElem_mem hkL)).1
 subst hTT
 generalize hTT : ((.seq (.ops (⟨some 91, _, _⟩ :: _) _) _) : XCode) = TT
 simp only [zZ, zY, q_d, q_h, q_k, q_C, q_U, q_W, q_X, v_ld, ev, qb_p, qb_q, xbin, ibin, if_true, if_false, Nat.reduceEqDiff, Nat.reduceLT, lv, wm, ld, cf, decide_false, ldn1]
 refine yjl T S w e _ at' (by omega) H1 _ i1 i2 (dA.byt _ _ _ e1 e2) hl128 ?_
 rintro H2 s' rfl hb _ _ ⟨B, o, c, c', he1, hse, g1, g2⟩
 have x2 := x1.trans xA
 have olA : OwnI Hs.n (H1.push ⟨[.int .i64 T, .int .i64 S, w], 1, false, false⟩) vl l := Own.ext xA ol
 generalize H1.push ⟨[.int .i64 T, .int .i64 S, w], 1, false, false⟩ = H2 at *
 have hm := Nat.mod_lt at' (by omega : 0 < 4)
 obtain ⟨blk, hgb, hro, hbl, dB, sB', _⟩ := yg4 dA (2 + at' / 4) e _ e1 e2 B o c (by rw [hl128]; exact he1) (32 * (at' % 4)) s (by rw [hl128]; omega)
 have hmin : Nat.min s.length 32 = s.length := Nat.min_eq_left (by omega)
 have hsl2 : srcLen (.string (sB s)) = some s.length := by show some (sB s).size = _; rw [ycD]
 have xc := yeP (sz := 1) (l := 32) (c := c') (o := o + 32 * (at' % 4)) (y := .string (sB s)) hsl2 hgb hro (by omega) (by rw [hmin]; exact yjX s hs8 H2)
 rw [<- hse] at xc
 have eS : L.set (2 + at' / 4) (spI (L[2 + at' / 4]'hkL) (32 * (at' % 4)) s) = slS L at' s := by unfold slS; rw [yaa e2]
 rw [eS] at dB
 have fB := Frm.stp e1 sB'
 subst hTT
 generalize hTT : ((.seq (.ops (⟨some 94, _, _⟩ :: _) _) _) : XCode) = TT
 simp only [zZ, zY, qb_l, ev, if_true, if_false, Nat.reduceEqDiff, Nat.reduceLT, xc]
 generalize H2.set B { blk with cells := splice blk.cells (o + 32 * (at' % 4)) (s.map (Value.int .u8)) } = H3 at *
 have h8a := yl0 L at' s h8 hkL (by omega) hs8
 have la := yfi L at' s
 have dB' : Dk n0 (slS L at' s).length H3 w vs (slS L at' s) := by rw [la]; exact dB
 have ld3 : pLen vd H3 = some (.int .i64 (data.length : Int), H3) := yaY (Sl.ext (Frm.hext fB (fun i x hx b hb => by have := d.geAll i x hx b hb; omega) (x0b.trans x2)) hd : Byts H3 vd data)
 have sh := shr8N data.length
 have n8 : ¬ ((8 : Int) < 0) := by decide
 have cv1 := fun H => yc8 ((data.length / 256 : Nat) : Int) (by omega) (by omega) H
 have cv2 := fun H => yjs data.length H
 obtain ⟨p1, q1⟩ := yf1 dB' h8a at' 20 (by omega) (by omega) e e1 B o c c' he1 g1 g2 254
 rw [<- hse] at p1
 have p1' : pIdx 1 s' (.int .i64 20) H3 = some (ptrAt e (32 * (at' % 4) + 20), H3) := p1
 subst hTT
 generalize hTT : ((.seq (.seq (.ops (⟨some 107, _, _⟩ :: _) _) _) _) : XCode) = TT
 simp only [zZ, zY, q_W, q_X, q_Z, v_st, qb_f, ev, qb_v, xbin, if_true, if_false, Nat.reduceEqDiff, Nat.reduceLT, ld3, n8, sh, cv1, cv2, p1']
 refine q1 ?_
 intro H4 d4 s4
 have h8b := ydr (slS L at' s) at' 20 254 h8a (by omega) (by omega) (by omega)
 have lb := ybn (slS L at' s) at' 20 254
 have d4' : Dk n0 (setB (slS L at' s) at' 20 254).length H4 w vs (setB (slS L at' s) at' 20 254) := by rw [lb]; exact d4
 obtain ⟨p2, q2⟩ := yf1 d4' h8b at' 21 (by omega) (by omega) e e1 B o c c' he1 g1 g2 ((data.length / 256 : Nat) : Int)
 rw [<- hse] at p2
 have p2' : pIdx 1 s' (.int .i64 21) H4 = some (ptrAt e (32 * (at' % 4) + 21), H4) := p2
 simp only [q_q, p2']
 refine q2 ?_
 intro H5 d5 s5
 have h8c := ydr _ at' 21 ((data.length / 256 : Nat) : Int) h8b (by omega) (by omega) (by omega)
 have lc := ybn (setB (slS L at' s) at' 20 254) at' 21 ((data.length / 256 : Nat) : Int)
 have d5' : Dk n0 (setB (setB (slS L at' s) at' 20 254) at' 21 ((data.length / 256 : Nat) : Int)).length H5 w vs (setB (setB (slS L at' s) at' 20 254) at' 21 ((data.length / 256 : Nat) : Int)) := by rw [lc]; exact d5
 obtain ⟨p3, q3⟩ := yf1 d5' h8c at' 22 (by omega) (by omega) e e1 B o c c' he1 g1 g2 ((data.length % 256 : Nat) : Int)
 rw [<- hse] at p3
 have p3' : pIdx 1 s' (.int .i64 22) H5 = some (ptrAt e (32 * (at' % 4) + 22), H5) := p3
 simp only [q_q, p3']
 refine q3 ?_
 intro H6 d6 s6
 have lE : (entP L at' s data.length).length = L.length := yiX L at' s data.length
 have h8E := ymL L h8 hN at' hat s hs8 hsl data.length hdl
 have d6' : Dk n0 (entP L at' s data.length).length H6 w vs (entP L at' s data.length) := by
  rw [lE]
  rw [lc, lb, la] at d6
  exact d6
 have f6 : Frm vs H2 H6 := fB.trans ((Frm.stp e1 s4).trans ((Frm.stp e1 s5).trans (Frm.stp e1 s6)))
 have sep : SepL vl w vs := ⟨fun b hb hb2 => by have := Own.geB ol hb; have := d.own.1.lt hb2; omega, fun i y hy b hb hb2 => by have := Own.geB ol hb; have := d.lt i y hy hb2; omega⟩
 have hvl6 := sep.frm f6 olA.1
 have hge := d.geAll
 have k6 : Keep n0 Hs H6 := Keep.trans (HExt.keep x2 hn0) (yfZ f6 hge (by have := x2.1; omega))
 have x06 : HExt H0 H6 := x0b.trans' k6.1 fun b hb => k6.2 b (by omega)
 have lv6 := yct hvl6
 subst hTT
 generalize hTT : ((.seq (.ops (⟨some 144, _, _⟩ :: _) _) _) : XCode) = TT
 simp only [zZ, zY, q_b, q_X, ev, if_true, if_false, Nat.reduceEqDiff, Nat.reduceLT, lv6]
 refine ypM T S w vd vl s' e n0 at' E3 E6 (entP L at' s data.length) l data H0 H6 vs _ B o c c' d6' h8E (by omega) (by omega) hat hd8 (by have := k6.1; omega) hH0 x06 hd (b3.keep k6 hE3) hE3 hln (by rw [lE]; exact hlm) (by omega) hvl6 sep e1 he1 hse g1 g2 ?_
 rintro vs' H7 fr d7 k7 rfl
 have k07 := Keep.trans k6 k7
 have ldn7 := (b3.keep k07 hE3).ldn 3 rfl
 obtain ⟨w1, w2⟩ := yan d.own.1
 have r7 := b6.keep k07 hE6
 have st7 := r7.stn 3 [.int .i64 T, .int .i64 S, w] rfl rfl (by simp only [List.all_cons, List.all_nil, w1, yaR]; rfl)
 have r8 := r7.set [.int .i64 T, .int .i64 S, w]
 have hcell : ∀ (fr : Fr) (xs : List XRes), fr.get 6 = some (.pointer (some ⟨E6, 0, none⟩)) -> xress fr (H7.set E6 ⟨[.int .i64 T, .int .i64 S, w], 1, false, false⟩) (.cell 6 (some 3) :: xs) = (xress fr (H7.set E6 ⟨[.int .i64 T, .int .i64 S, w], 1, false, false⟩) xs).map fun vs => .agg #[.int .i64 T, .int .i64 S, w] :: vs := by
  intro fr xs hfr
  rw [ybI fr _ 6 _ 0 (some 3) _ (.agg #[.int .i64 T, .int .i64 S, w]) xs hfr r8.1 rfl]
 subst hTT
 simp only [zZ, zY, q_f, q_h, q_k, q_m, v_ld, v_st, ev, qb_v, qb_A, qb_B, qb_C, resV, qb_D, if_true, if_false, Nat.reduceEqDiff, Nat.reduceLT, ldn7, st7, hcell]
 rw [hln, <- hput, lE] at d7
 have hpl : (putP L at' s data).length = L.length := by rw [hput, yck, lE]
 have d7' : Dk n0 (putP L at' s data).length H7 w vs' (putP L at' s data) := by rw [hpl]; exact d7
 refine hq vs' _ ?_ ?_
 ·rw [<- hpl]
  exact d7'.set (fun h => by have := Own.geB d7'.own h; omega) fun i x hx h => by have := d7'.geAll i x hx _ h; omega
 ·refine x0b.trans' (by show Hs.n <= H7.n; exact k07.1) fun b hb => ?_
  rw [AH.get_set, if_neg (by omega)]
  exact k07.2 b (by omega)
set_option maxHeartbeats 8000000 in
theorem ypO (T S : Int) (w vd : Value) (str : Value) (at' E3 E6 : Nat) (L : List (List Int)) (Hs : AH) (Q : XExit -> Fr -> AH -> Prop) (hs : Secs Hs w L) (h8 : ∀ l ∈ L, SecOk l) (hN : 10 < L.length)
  (b3 : Bx Hs E3 [.int .i64 T, .int .i64 S, w]) (hat : at' < 32) (hz : (slt L at').getD 0 0 = 0) (hnz : ∀ j, j < at' -> (slt L j).getD 0 0 ≠ 0)
  (hq : ∀ H', HExt Hs H' -> Q (.exit 0) [(1, str), (2, vd), (3, .pointer (some ⟨E3, 0, none⟩)), (6, .pointer (some ⟨E6, 0, none⟩)), (9, .int .i64 (at' : Int)), (52, .bool false)] H') :
  Run Tryz.prog tab (.loop ycH) [(1, str), (2, vd), (3, .pointer (some ⟨E3, 0, none⟩)), (6, .pointer (some ⟨E6, 0, none⟩)), (9, .int .i64 0)] Hs Q := by
 refine yaz (fun k fr H' => HExt Hs H' /\ fr = [(1, str), (2, vd), (3, .pointer (some ⟨E3, 0, none⟩)), (6, .pointer (some ⟨E6, 0, none⟩)), (9, .int .i64 (k : Int))]) at' ⟨HExt.refl Hs, rfl⟩ ?_ ?_
 ·rintro k hk fr H1 ⟨x1, rfl⟩ J hJ
  have ldn := (b3.ext x1).ldn 3 rfl
  have hlt : (k : Int) < 32 := by omega
  have w3 := wrS k (by omega)
  have hkL : 2 + k / 4 < L.length := by omega
  have hlen := yeA L k h8 hkL
  simp only [zZ, zY, ycH, q_b, q_d, q_j, q_r, q_U, q_W, q_Z, v_ld, qb_o, ev, qb_p, qb_q, xbin, ibin, if_true, if_false, Nat.reduceEqDiff, Nat.reduceLT, hlt, decide_true, ldn]
  refine yfh T S w L k H1 _ (Secs.ext x1 hs) h8 hkL (by omega) ?_
  intro H2 s x2 hb
  have e1 := yam hb 0 0 rfl (by omega)
  have e2 := yaJ hb 0 _ (ya6 (slt L k) 0 (by omega))
  have cb : ((slt L k).getD 0 0 != 0) = true := by simpa using hnz k hk
  simp only [zZ, zY, q_d, q_B, ev, if_true, if_false, Nat.reduceEqDiff, Nat.reduceLT, e1, e2, cb, w3]
  exact hJ _ _ ⟨x1.trans x2, rfl⟩
 ·rintro fr H1 ⟨x1, rfl⟩
  have ldn := (b3.ext x1).ldn 3 rfl
  have hlt : (at' : Int) < 32 := by omega
  have hkL : 2 + at' / 4 < L.length := by omega
  have hlen := yeA L at' h8 hkL
  simp only [zZ, zY, ycH, q_b, q_d, q_j, q_r, q_U, q_W, q_Z, v_ld, qb_o, ev, qb_p, qb_q, xbin, ibin, if_true, if_false, Nat.reduceEqDiff, Nat.reduceLT, hlt, decide_true, ldn]
  refine yfh T S w L at' H1 _ (Secs.ext x1 hs) h8 hkL (by omega) ?_
  intro H2 s x2 hb
  have e1 := yam hb 0 0 rfl (by omega)
  have e2 := yaJ hb 0 _ (ya6 (slt L at') 0 (by omega))
  have cb : ((slt L at').getD 0 0 != 0) = false := by simpa using hz
  simp only [q_e, q_h, q_q, q_C, ev, qb_r, zC, if_true, if_false, Nat.reduceEqDiff, e1, e2, cb]
  exact hq H2 (x1.trans x2)
set_option maxHeartbeats 8000000 in
theorem yps (T S : Int) (v vd : Value) (L : List (List Int)) (s data : List Int) (at' : Nat) (H : AH) (Q : Value -> AH -> Prop) (hs : Secs H v L) (h8 : ∀ l ∈ L, SecOk l) (hT : 1 <= T) (hT2 : T <= 20) (hS : 1 <= S) (hS2 : S <= 12) (hLL : (L.length : Int) = T * S) (hN : 10 < L.length) (hN2 : L.length <= 240)
  (hc : checkP L = 0) (hs8 : B8 s) (hsn : okName s = true) (hsl : s.length <= 20) (hd : Byts H vd data) (hd8 : B8 data) (hdl : data.length <= 65535) (hf : findP s (slots L) 0 = -1) (hat : at' < 32) (hz : (slt L at').getD 0 0 = 0) (hnz : ∀ j, j < at' -> (slt L j).getD 0 0 ≠ 0)
  (hfree : need data.length <= (freeP L L.length).length)
  (hq : ∀ w vs H', Dk H.n L.length H' w vs (putP L at' s data) -> HExt H H' -> Q (.tuple [.agg #[.int .i64 T, .int .i64 S, w], .int .i64 0].toArray) H') :
  Got (xc Tryz.prog tab 62 [.agg #[.int .i64 T, .int .i64 S, v], .string (sB s), vd] H) Q := by
 refine yac (res := [.cell 6 (some 3), .tmp 7]) rfl ?_
 have vA : vcells (.agg #[.int .i64 T, .int .i64 S, v]) = [.int .i64 T, .int .i64 S, v] := rfl
 have b1 := Bx.new H [.int .i64 T, .int .i64 S, v]
 have x1 := yab H ⟨[.int .i64 T, .int .i64 S, v], 1, false, false⟩
 have n1 : (H.push ⟨[.int .i64 T, .int .i64 S, v], 1, false, false⟩).n = H.n + 1 := rfl
 have r1 := Bx.new (H.push ⟨[.int .i64 T, .int .i64 S, v], 1, false, false⟩) [.int .i64 0, .int .i64 0, .slice none 0 0]
 have x2 := yab (H.push ⟨[.int .i64 T, .int .i64 S, v], 1, false, false⟩) ⟨[.int .i64 0, .int .i64 0, .slice none 0 0], 1, false, false⟩
 generalize hTT : ((.seq (.seq (.ops (⟨some 16, _, _⟩ :: _) _) _) _) : XCode) = TT
 simp only [zZ, zY, ofArgs, qb_i, qb_j, ev, if_true, if_false, reduceCtorEq, Nat.reduceEqDiff, Nat.reduceLT, Nat.zero_add, Nat.reduceAdd, vA, n1]
 rw [n1] at r1
 have b2 := b1.ext x2
 have x12 := x1.trans x2
 generalize (H.push ⟨[.int .i64 T, .int .i64 S, v], 1, false, false⟩).push ⟨[.int .i64 0, .int .i64 0, .slice none 0 0], 1, false, false⟩ = H2 at *
 have ldn2 := b2.ldn 3 rfl
 subst hTT
 generalize hTT : ((.seq (.seq (.ops (⟨some 22, _, _⟩ :: _) _) _) _) : XCode) = TT
 simp only [zZ, zY, q_U, q_W, v_ld, ev, qb_p, qb_q, xbin, ibin, if_true, if_false, Nat.reduceEqDiff, Nat.reduceLT, ldn2]
 refine yi2 T S v L H2 _ (Secs.ext x12 hs) h8 hT hT2 hS hS2 hLL hN hN2 ?_
 intro H3 x3
 rw [hc]
 have x13 := x12.trans x3
 have b3 := b2.ext x3
 have r3 := r1.ext x3
 have ldn3 := b3.ldn 3 rfl
 have Nx := yi1 s hs8 (by omega) H3
 rw [hsn] at Nx
 have ld3 := yaY (Sl.ext x13 hd : Byts H3 vd data)
 have c65 : ¬ (data.length : Int) > 65535 := by omega
 subst hTT
 generalize hTT : ((.seq (.seq (.ops (⟨some 33, _, _⟩ :: _) _) _) _) : XCode) = TT
 simp only [zZ, zY, q_d, q_C, q_E, q_J, zE, q_U, q_W, q_X, v_ld, ev, qb_p, qb_q, xbin, ibin, if_true, if_false, Nat.reduceEqDiff, Nat.reduceLT, bne_self_eq_false, Nx, ld3, c65, decide_false, ldn3]
 refine ymB T S v L s hs8 H3 _ (Secs.ext x13 hs) h8 hN ?_
 intro H4 x4
 rw [hf]
 have x14 := x13.trans x4
 have b4 := b3.ext x4
 have r4 := r3.ext x4
 have ldn4 := b4.ldn 3 rfl
 have c0 : ¬ (-1 : Int) >= 0 := by decide
 subst hTT
 generalize hTT : ((.seq (.seq (.ops (⟨some 11, _, _⟩ :: []) _) _) _) : XCode) = TT
 simp only [zZ, zY, q_b, q_C, q_U, q_W, v_ld, v_st, ev, qb_p, qb_q, qb_v, xbin, ibin, if_true, if_false, Nat.reduceEqDiff, Nat.reduceLT, c0, decide_false, ldn4]
 refine yle T S v H4 L _ (Secs.ext x14 hs) h8 (by omega) (by omega) ?_
 intro w vs H5 d5 x5
 have x15 := x14.trans x5
 have b5 := b4.ext x5
 have r5 := r4.ext x5
 obtain ⟨w1, w2⟩ := yan d5.own.1
 have st5 := b5.stn 3 [.int .i64 T, .int .i64 S, w] rfl rfl (by simp only [List.all_cons, List.all_nil, w1, yaR]; rfl)
 have b6 := b5.set [.int .i64 T, .int .i64 S, w]
 have n24 : H.n + 1 < H4.n := by have := r4.2; omega
 have wge : ∀ E, E <= H.n + 1 -> ¬ inB w E := fun E hE h => by have := Own.geB d5.own h; omega
 have xge : ∀ E, E <= H.n + 1 -> ∀ (i : Nat) (x : Value), vs[i]? = some x -> ¬ inB x E := fun E hE i x hx h => by have := d5.geAll i x hx E h; omega
 have d6 : Dk H4.n L.length (H5.set H.n ⟨[.int .i64 T, .int .i64 S, w], 1, false, false⟩) w vs L := d5.set (wge _ (by omega)) (xge _ (by omega))
 have r6 : Bx (H5.set H.n ⟨[.int .i64 T, .int .i64 S, w], 1, false, false⟩) (H.n + 1) [.int .i64 0, .int .i64 0, .slice none 0 0] := r5.same (Nat.le_refl _) (by rw [AH.get_set, if_neg (by omega)])
 have x6 : HExt H (H5.set H.n ⟨[.int .i64 T, .int .i64 S, w], 1, false, false⟩) := x15.trans' (Nat.le_refl _) fun b hb => by rw [AH.get_set, if_neg (by omega)]
 have n46 : H4.n <= (H5.set H.n ⟨[.int .i64 T, .int .i64 S, w], 1, false, false⟩).n := x5.1
 simp only [q_q, st5]
 generalize H5.set H.n ⟨[.int .i64 T, .int .i64 S, w], 1, false, false⟩ = H6 at *
 have c32 : ((at' : Int) == 32) = false := by simp; omega
 refine ypO T S w vd _ at' H.n (H.n + 1) L H6 _ d6.secs h8 hN b6 hat hz hnz ?_
 intro H7 x7
 have n67 := x7.1
 simp only [zZ, zY, q_d, q_h, q_k, q_C, ev, if_true, if_false, Nat.reduceEqDiff, Nat.reduceLT, c32]
 subst hTT
 refine ynr T S w vd H4.n at' H.n (H.n + 1) L s data H H7 vs Q (d6.ext x7) h8 hN hN2 hat hd8 hs8 hsl hdl (by omega) (by omega) (x6.trans x7) hd (b6.ext x7) (by omega) (r6.ext x7) (by omega) (by omega) hfree ?_
 intro vs' H8 d8 x8
 have h04 : H.n <= H4.n := by omega
 have hpl : (putP L at' s data).length = L.length := by unfold putP; rw [yck, yiX]
 exact hq w vs' H8 ⟨d8.len, Own.le d8.own h04, fun i x l h1 h2 h3 => Own.le (d8.el i x l h1 h2 h3) h04, fun i x l h1 h2 h3 => by have := (List.getElem?_eq_some_iff.1 h3).1; omega, d8.dis, d8.sep⟩ x8
structure PF where
 nm : List Int
 dt : List Int
 ch : List Nat
def entB (nm : List Int) (n first : Nat) : List Int := nm ++ List.replicate (20 - nm.length) 0 ++ [((first : Nat) : Int), ((n / 256 : Nat) : Int), ((n % 256 : Nat) : Int)] ++ List.replicate 9 0
def PF.ent (p : PF) : List Int := entB p.nm p.dt.length (p.ch.getD 0 254)
structure PfOk (L : List (List Int)) (p : PF) : Prop where
 nm : okName p.nm = true
 n8 : B8 p.nm
 d8 : B8 p.dt
 dl : p.dt.length <= 65535
 cl : p.ch.length = need p.dt.length
 nd : p.ch.Nodup
 rng : ∀ c ∈ p.ch, 10 <= c /\ c < L.length
 lnk : ∀ j c, p.ch[j]? = some c -> tb L c = ((p.ch.getD (j + 1) 254 : Nat) : Int) /\ L[c]? = some (blkP p.dt j)
structure Rep (L : List (List Int)) (F : Nat -> Option PF) : Prop where
 h10 : 10 < L.length
 h240 : L.length <= 240
 h8 : ∀ l ∈ L, SecOk l
 fix : ∀ i, i < 256 -> (i < 10 \/ L.length <= i) -> tb L i = 253
 fil : ∀ i p, i < 32 -> F i = some p -> PfOk L p /\ slt L i = p.ent
 zer : ∀ i, i < 32 -> F i = none -> slt L i = z32
 dnm : ∀ i j p q, i < 32 -> j < 32 -> F i = some p -> F j = some q -> p.nm = q.nm -> i = j
 dch : ∀ i j p q c, i < 32 -> j < 32 -> F i = some p -> F j = some q -> c ∈ p.ch -> c ∈ q.ch -> i = j
 fre : ∀ c, 10 <= c -> c < L.length -> (∀ i p, i < 32 -> F i = some p -> c ∉ p.ch) -> tb L c = 255
theorem yaU {s : List Int} (h : okName s = true) : s.length <= 20 /\ s ≠ [] /\ (∀ x ∈ s, okc x = true) := by
 unfold okName at h
 simp only [Bool.and_eq_true, decide_eq_true_eq, List.all_eq_true] at h
 obtain ⟨⟨⟨⟨h1, h2⟩, h3⟩, h4⟩, h5⟩ := h
 exact ⟨h2, by intro e; subst e; simp at h1, h5⟩
theorem yl9 {x : Int} (h : okc x = true) : x ≠ 0 := by
 intro e; subst e; simp [okc] at h
theorem ymJ (nm : List Int) (n f : Nat) (h : nm.length <= 20) : (entB nm n f).getD 20 0 = ((f : Nat) : Int) /\ (entB nm n f).getD 21 0 = ((n / 256 : Nat) : Int) /\ (entB nm n f).getD 22 0 = ((n % 256 : Nat) : Int) := by
 have hl : (nm ++ List.replicate (20 - nm.length) (0 : Int)).length = 20 := by simp; omega
 have e : ∀ j x, ([((f : Nat) : Int), ((n / 256 : Nat) : Int), ((n % 256 : Nat) : Int)] : List Int)[j]? = some x -> (entB nm n f).getD (20 + j) 0 = x := by
  intro j x hx
  have hj := (List.getElem?_eq_some_iff.1 hx).1
  refine yaa ?_
  unfold entB
  rw [List.getElem?_append_left (by simp at hj; simp; omega), List.getElem?_append_right (by omega), hl, show 20 + j - 20 = j by omega]
  exact hx
 exact ⟨e 0 _ rfl, e 1 _ rfl, e 2 _ rfl⟩
theorem yk9 (nm : List Int) (n f : Nat) (h : nm.length <= 20) : sizeB (entB nm n f) = (n : Int) := by
 obtain ⟨_, h1, h2⟩ := ymJ nm n f h
 unfold sizeB
 rw [h1, h2]; omega
theorem yeY {p : Int -> Bool} : ∀ (l t : List Int), (∀ x ∈ l, p x = true) -> (∀ x, t.head? = some x -> p x = false) -> (l ++ t).takeWhile p = l
 | [], t, _, h => by
  cases t with
  | nil => rfl
  | cons a t => rw [List.nil_append, List.takeWhile_cons, if_neg (by simp [h a rfl])]
 | a :: l, t, h, h2 => by
  rw [List.cons_append, List.takeWhile_cons, if_pos (h a (by simp)), yeY l t (fun x hx => h x (by simp [hx])) h2]
theorem yla (nm : List Int) (n f : Nat) (h : okName nm = true) : nameB (entB nm n f) = nm := by
 obtain ⟨h1, _, h3⟩ := yaU h
 unfold nameB
 have e : (entB nm n f).take 20 = nm ++ List.replicate (20 - nm.length) 0 := by
  unfold entB
  rw [List.append_assoc, List.take_append_of_le_length (by simp; omega), List.take_of_length_le (by simp; omega)]
 rw [e]
 refine yeY nm _ (fun x hx => by simpa using yl9 (h3 x hx)) fun x hx => ?_
 cases hr : 20 - nm.length with
 | zero => rw [hr] at hx; simp at hx
 | succ k => rw [hr] at hx; simp [List.replicate_succ] at hx; rw [<- hx]; rfl
theorem ynW (nm : List Int) (n f : Nat) (h : okName nm = true) : endsB (entB nm n f) = true := by
 obtain ⟨h1, _, _⟩ := yaU h
 unfold endsB
 rw [yla nm n f h]
 have e : (entB nm n f).take 20 = nm ++ List.replicate (20 - nm.length) 0 := by
  unfold entB
  rw [List.append_assoc, List.take_append_of_le_length (by simp; omega), List.take_of_length_le (by simp; omega)]
 have e2 : (entB nm n f).drop 23 = List.replicate 9 0 := by
  unfold entB
  rw [List.drop_append_of_le_length (by simp; omega), List.drop_eq_nil_of_le (by simp; omega), List.nil_append]
 rw [e, e2, List.drop_append_of_le_length (Nat.le_refl _), List.drop_length, List.nil_append]
 simp
theorem ymK (nm : List Int) (n f : Nat) (h : okName nm = true) : (entB nm n f).getD 0 0 ≠ 0 := by
 obtain ⟨h1, h2, h3⟩ := yaU h
 cases nm with
 | nil => exact absurd rfl h2
 | cons a t =>
  show a ≠ 0
  exact yl9 (h3 a (by simp))
def mark (us : List Bool) (ch : List Nat) : List Bool := ch.foldl (fun u c => u.set c true) us
theorem ynx (ch : List Nat) : ∀ us, (mark us ch).length = us.length := by
 induction ch with
 | nil => intro us; rfl
 | cons c ch ih => intro us; show (mark (us.set c true) ch).length = _; rw [ih]; simp
theorem yny (ch : List Nat) : ∀ (us : List Bool) (i : Nat), i < us.length -> (mark us ch).getD i false = (us.getD i false || decide (i ∈ ch)) := by
 induction ch with
 | nil => intro us i _; simp [mark]
 | cons c ch ih =>
  intro us i hi
  show (mark (us.set c true) ch).getD i false = _
  rw [ih _ i (by simpa using hi)]
  by_cases h : i = c
  ·subst h
   have : (us.set i true).getD i false = true := yaa (by rw [List.getElem?_set, if_pos rfl, if_pos hi])
   rw [this]; simp
  ·have : (us.set c true).getD i false = us.getD i false := by
    simp only [List.getD_eq_getElem?_getD]
    rw [List.getElem?_set_ne (Ne.symm h)]
   rw [this]
   simp [h]
theorem yfB (t : Nat -> Int) (N : Nat) (hN : N <= 240) : ∀ (ch : List Nat) (f : Nat) (us : List Bool) (out : List Int), ch.length < f -> us.length = N -> ch.Nodup -> (∀ c ∈ ch, 10 <= c /\ c < N) -> (∀ c ∈ ch, us.getD c false = false) ->
  (∀ j c, ch[j]? = some c -> t c = ((ch.getD (j + 1) 254 : Nat) : Int)) -> folP t N f ((ch.getD 0 254 : Nat) : Int) us out = .inr (out ++ ch.map (fun c : Nat => (c : Int)), mark us ch)
 | [], f + 1, us, out, _, _, _, _, _, _ => by
  unfold folP
  rw [if_pos (by rfl)]; simp [mark]
 | c :: ch, f + 1, us, out, hf, hl, hnd, hr, hu, hlk => by
  obtain ⟨r1, r2⟩ := hr c (by simp)
  obtain ⟨n1, n2⟩ := List.nodup_cons.1 hnd
  have ht := hlk 0 c rfl
  have hg : (c :: ch).getD 0 254 = c := rfl
  have hg1 : (c :: ch).getD (0 + 1) 254 = ch.getD 0 254 := rfl
  rw [hg1] at ht
  rw [hg]
  unfold folP
  have c1 : ¬ ((c : Int) = 254) := by omega
  have hnb : ch.getD 0 254 < 255 := by
   cases ch with
   | nil => decide
   | cons d r => have := (hr d (by simp)).2; show d < 255; omega
  have c2 : ¬ ((c : Int) < 10 \/ (c : Int) >= (N : Int) \/ t (c : Int).toNat = 255) := by
   rw [Int.toNat_natCast, ht]; omega
  rw [if_neg c1, if_neg c2, Int.toNat_natCast, if_neg (by rw [hu c (by simp)]; simp), ht]
  rw [yfB t N hN ch f (us.set c true) (out ++ [(c : Int)]) (by simp at hf; omega) (by simpa using hl) n2 (fun d hd => hr d (by simp [hd])) (fun d hd => ?_) (fun j d hj => hlk (j + 1) d hj)]
  ·simp [mark]
  ·have hdc : d ≠ c := fun e => n1 (e ▸ hd)
   simp only [List.getD_eq_getElem?_getD]
   rw [List.getElem?_set_ne (Ne.symm hdc), <- List.getD_eq_getElem?_getD]
   exact hu d (by simp [hd])
theorem yeE : ∀ {N : Nat} {l : List Nat}, l.Nodup -> (∀ c ∈ l, c < N) -> l.length <= N
 | 0, l, _, h => by
  cases l with
  | nil => simp
  | cons c l => have := h c (by simp); omega
 | N + 1, l, hn, h => by
  have h1 := yeE (N := N) (hn.erase N) fun c hc => by
   obtain ⟨h2, h3⟩ := (List.Nodup.mem_erase_iff hn).1 hc
   have := h c h3; omega
  have h2 : l.length <= (l.erase N).length + 1 := by
   rw [List.length_erase]
   split <;> omega
  omega
theorem ymy {L : List (List Int)} {p : PF} (h : PfOk L p) (hN : L.length <= 240) (us : List Bool) (hl : us.length = L.length) (hu : ∀ c ∈ p.ch, us.getD c false = false) : folS L p.ent us = .inr (p.ch.map (fun c : Nat => (c : Int)), mark us p.ch) := by
 have hnl := (yaU h.nm).1
 obtain ⟨e1, _, _⟩ := ymJ p.nm p.dt.length (p.ch.getD 0 254) hnl
 have hs := yk9 p.nm p.dt.length (p.ch.getD 0 254) hnl
 have hb : p.ch.length <= L.length := yeE h.nd fun c hc => (h.rng c hc).2
 unfold folS PF.ent
 rw [e1, yfB (tb L) L.length hN p.ch _ us [] (by omega) hl h.nd h.rng hu fun j c hj => (h.lnk j c hj).1, hs]
 show (if (([] ++ p.ch.map (fun c : Nat => (c : Int))).length : Int) ≠ _ then _ else _) = _
 have : (([] ++ p.ch.map (fun c : Nat => (c : Int))).length : Int) = ((p.dt.length : Int) + 127) / 128 := by
  rw [List.nil_append, List.length_map, h.cl]
  unfold need; omega
 rw [if_neg (by rw [this]; simp)]
 rfl
end Go.Proofs.YtnjjnnfpnjjccaaGreatDoor.D
