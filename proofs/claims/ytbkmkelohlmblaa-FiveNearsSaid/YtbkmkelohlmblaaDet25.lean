/- A part of a run of a program on a heap of its own, and that the machine does what that run says: no condition but those that each theorem names. -/
import Derived.Test.YtbkmkelohlmblaaDet24
set_option linter.unusedSimpArgs false
set_option linter.unusedVariables false
namespace Go.Det
variable {P : Program} {T : XTab}
/-! ### drawn regions some of whose reads must be stable -/
def hsPut (kd : Nat) (p : Nat × AH) (hs : List (Nat × AH)) : List (Nat × AH) := bif Nat.ble 2 kd then p :: hs else hs
theorem hs0 (p : Nat × AH) (hs : List (Nat × AH)) : hsPut 0 p hs = hs := rfl
theorem hs1 (p : Nat × AH) (hs : List (Nat × AH)) : hsPut 1 p hs = hs := rfl
theorem hs2 (p : Nat × AH) (hs : List (Nat × AH)) : hsPut 2 p hs = p :: hs := rfl
theorem hs3 (p : Nat × AH) (hs : List (Nat × AH)) : hsPut 3 p hs = p :: hs := rfl
def addC (x : XOper) (rd : List Nat) (kd : Nat) (st : List Nat) (f : Fr) (v : Value) (cs : List (XDop × Fr × Value)) : List (XDop × Fr × Value) :=
  match st with | [] => cs | _ => (⟨x, rd, kd, st⟩, f, v) :: cs
theorem addC_nil (x : XOper) (rd : List Nat) (kd : Nat) (f : Fr) (v : Value) (cs : List (XDop × Fr × Value)) : addC x rd kd [] f v cs = cs := rfl
theorem addC_cons (x : XOper) (rd : List Nat) (kd a : Nat) (l : List Nat) (f : Fr) (v : Value) (cs : List (XDop × Fr × Value)) : addC x rd kd (a :: l) f v cs = (⟨x, rd, kd, a :: l⟩, f, v) :: cs := rfl
def StabAll (P : Program) (T : XTab) (hs : List (Nat × AH)) (cs : List (XDop × Fr × Value)) : Prop := cs.all (stabOk P (xc P T) hs) = true
def HAt (hs : List (Nat × AH)) (t : Nat) (K : AH → Prop) : Prop := ∃ H, heapAt hs t = some H ∧ K H
theorem hat_cons (a t : Nat) (H : AH) (r : List (Nat × AH)) (K : AH → Prop) : HAt ((a, H) :: r) t K ↔ if a = t then K H else HAt r t K := by
  unfold HAt
  simp only [heapAt]
  by_cases h : a = t
  · subst h; simp
  · have : Nat.beq a t = false := by rw [Tr.beq_eq]; simp [h]
    simp [this, h]
def Stab1 (P : Program) (T : XTab) (hs : List (Nat × AH)) (x : XOper) (f : Fr) (v : Value) (st : List Nat) : Prop :=
  ∀ t ∈ st, HAt hs t fun H => Got (xval P (xc P T) x f H) fun u _ => veq v u = true
theorem stab1_nil (hs : List (Nat × AH)) (x : XOper) (f : Fr) (v : Value) : Stab1 P T hs x f v [] ↔ True := by simp [Stab1]
theorem stab1_cons (hs : List (Nat × AH)) (x : XOper) (f : Fr) (v : Value) (t : Nat) (st : List Nat) : Stab1 P T hs x f v (t :: st) ↔ (HAt hs t fun H => Got (xval P (xc P T) x f H) fun u _ => veq v u = true) ∧ Stab1 P T hs x f v st := by simp [Stab1]
theorem stabAll_nil (hs : List (Nat × AH)) : StabAll P T hs [] ↔ True := by simp [StabAll]
theorem stabAll_cons (hs : List (Nat × AH)) (x : XOper) (rd : List Nat) (kd : Nat) (st : List Nat) (f : Fr) (v : Value) (cs : List (XDop × Fr × Value)) :
    StabAll P T hs ((⟨x, rd, kd, st⟩, f, v) :: cs) ↔ Stab1 P T hs x f v st ∧ StabAll P T hs cs := by
  unfold StabAll
  rw [List.all_cons, Bool.and_eq_true]
  refine and_congr ?_ Iff.rfl
  unfold stabOk Stab1 HAt
  rw [List.all_eq_true]
  refine forall_congr' fun t => forall_congr' fun ht => ?_
  simp only []
  constructor
  · intro h
    split at h
    · rename_i H hH
      refine ⟨H, hH, ?_⟩
      split at h
      · rename_i r hr
        obtain ⟨u, H'⟩ := r
        exact ⟨u, H', hr, h⟩
      · simp at h
    · simp at h
  · rintro ⟨H, hH, u, H', hr, h⟩
    rw [hH]
    simp only [hr]
    exact h
def DR (P : Program) (T : XTab) (t : Nat) (ds : List XDop) (fr : Fr) (H : AH) (hs : List (Nat × AH)) (cs : List (XDop × Fr × Value)) (Q : Fr → AH → Prop) : Prop :=
  ∃ r, drun P (xc P T) t ds fr H hs cs = some r ∧ StabAll P T r.hs r.cs ∧ Q r.fr r.H
theorem dr_nil (t : Nat) (fr : Fr) (H : AH) (hs : List (Nat × AH)) (cs : List (XDop × Fr × Value)) (Q : Fr → AH → Prop) : DR P T t [] fr H hs cs Q ↔ StabAll P T hs cs ∧ Q fr H := by
  unfold DR
  constructor
  · rintro ⟨r, h1, h2, h3⟩
    simp only [drun, Option.some.injEq] at h1
    subst h1
    exact ⟨h2, h3⟩
  · rintro ⟨h2, h3⟩
    exact ⟨_, rfl, h2, h3⟩
theorem dr_cons (t : Nat) (x : XOper) (rd : List Nat) (kd : Nat) (st : List Nat) (ds : List XDop) (fr : Fr) (H : AH) (hs : List (Nat × AH)) (cs : List (XDop × Fr × Value)) (Q : Fr → AH → Prop) :
    DR P T t (.mk x rd kd st :: ds) fr H hs cs Q ↔ Got (xval P (xc P T) x (fr.keep rd) H) fun v H' => DR P T (t + 1) ds (fr.put? x.dst v) H' (hsPut kd (t + 1, H') hs) (addC x rd kd st (fr.keep rd) v cs) Q := by
  unfold DR Got
  constructor
  · rintro ⟨r, h1, h2, h3⟩
    simp only [drun] at h1
    split at h1
    · rename_i v H' hv
      exact ⟨v, H', hv, r, h1, h2, h3⟩
    · cases h1
  · rintro ⟨v, H', hv, r, h1, h2, h3⟩
    refine ⟨r, ?_, h2, h3⟩
    simp only [drun, hv]
    exact h1
theorem run_dopsS (ds : List XDop) (keep : List Nat) (fr : Fr) (H : AH) (Q : XExit → Fr → AH → Prop) (h : DR P T 0 ds fr H [(0, H)] [] fun fr' H' => Q .normal (fr'.keep keep) H') :
    Run P T (.dops ds keep) fr H Q := by
  obtain ⟨r, h1, h2, h3⟩ := h
  refine ⟨.normal, r.fr.keep keep, r.H, ?_, h3⟩
  rw [xw_eq]
  have h2' : r.cs.all (stabOk P (xc P T) r.hs) = true := h2
  simp only [xstep, show xcallOf T (xw P T) = xc P T from rfl, xdops, h1, h2', cond_true]
theorem xval_wT {d : Option Nat} {op : XOp} {k : Nat} {fr : Fr} {H : AH} (h : fr.get k = some (.bool true)) : xval P (xc P T) ⟨d, op, some (k, true)⟩ fr H = xval P (xc P T) ⟨d, op, none⟩ fr H := by
  unfold xval; simp only [xwanted, h]; rfl
theorem xval_wTn {d : Option Nat} {op : XOp} {k : Nat} {fr : Fr} {H : AH} (h : fr.get k = some (.bool false)) : xval P (xc P T) ⟨d, op, some (k, true)⟩ fr H = some (undef, H) := by
  unfold xval; simp only [xwanted, h]; rfl
theorem xval_wF {d : Option Nat} {op : XOp} {k : Nat} {fr : Fr} {H : AH} (h : fr.get k = some (.bool false)) : xval P (xc P T) ⟨d, op, some (k, false)⟩ fr H = xval P (xc P T) ⟨d, op, none⟩ fr H := by
  unfold xval; simp only [xwanted, h]; rfl
theorem xval_wFn {d : Option Nat} {op : XOp} {k : Nat} {fr : Fr} {H : AH} (h : fr.get k = some (.bool true)) : xval P (xc P T) ⟨d, op, some (k, false)⟩ fr H = some (undef, H) := by
  unfold xval; simp only [xwanted, h]; rfl
theorem veq_int (k : IntKind) (a : Int) : veq (.int k a) (.int k a) = true := by simp [veq, veq1]
theorem veq_bool (a : Bool) : veq (.bool a) (.bool a) = true := by simp [veq, veq1]
theorem veq_ptr (a : Addr) : veq (.pointer (some a)) (.pointer (some a)) = true := by simp [veq, veq1]
theorem veq_sl (p : Option Addr) (l c : Nat) : veq (.slice p l c) (.slice p l c) = true := by cases p <;> simp [veq, veq1]
theorem veq_agg (l : List Value) (h : veqL l l = true) : veq (.agg l.toArray) (.agg l.toArray) = true := h
theorem Sl.veq {H : AH} {sz n : Nat} {v : Value} {cs : List Value} (h : Sl H sz v n cs) : veq v v = true := by
  rcases h with ⟨rfl, _⟩ | ⟨B, o, rfl, _⟩ | ⟨B, o, c, blk, rfl, _⟩ <;> exact veq_sl _ _ _
/-! ### results that lie in a cell -/
theorem xress_cell (fr : Fr) (H : AH) (t B o : Nat) (n : Option Nat) (blk : Blk) (v : Value) (xs : List XRes) (h1 : fr.get t = some (.pointer (some ⟨B, o, none⟩))) (h2 : H.get B = some blk) (h3 : partV blk.cells o n = some v) :
    xress fr H (.cell t n :: xs) = (xress fr H xs).map fun vs => v :: vs := by
  simp only [xress, xres, h1, h2, h3]
  rcases xress fr H xs with _ | vs <;> rfl
/-! ### a struct of three in a box -/
section
variable {H : AH} {B : Nat} {a b c : Value}
theorem ld3 (h : H.get B = some ⟨[a, b, c], 1, false, false⟩) : pLd (some 3) (.pointer (some ⟨B, 0, none⟩)) H = some (.agg #[a, b, c], H) := by unfold pLd; simp only [h]; rfl
theorem ld3_0 (h : H.get B = some ⟨[a, b, c], 1, false, false⟩) : pLd none (.pointer (some ⟨B, 0, none⟩)) H = some (a, H) := by unfold pLd; simp only [h]; rfl
theorem ld3_1 (h : H.get B = some ⟨[a, b, c], 1, false, false⟩) : pLd none (.pointer (some ⟨B, 1, none⟩)) H = some (b, H) := by unfold pLd; simp only [h]; rfl
theorem ld3_2 (h : H.get B = some ⟨[a, b, c], 1, false, false⟩) : pLd none (.pointer (some ⟨B, 2, none⟩)) H = some (c, H) := by unfold pLd; simp only [h]; rfl
theorem st3 {a' b' c' : Value} (h : H.get B = some ⟨[a, b, c], 1, false, false⟩) (h1 : one a' = true) (h2 : one b' = true) (h3 : one c' = true) : pSt 3 (.pointer (some ⟨B, 0, none⟩)) (.agg #[a', b', c']) H = some (undef, H.set B ⟨[a', b', c'], 1, false, false⟩) := by
  have e : vcells (.agg #[a', b', c']) = [a', b', c'] := rfl
  unfold pSt
  simp only [h, Option.bind_some, e, List.all_cons, List.all_nil, h1, h2, h3]
  rfl
theorem st3_2 {c' : Value} (h : H.get B = some ⟨[a, b, c], 1, false, false⟩) (h1 : one c' = true) (h2 : vcells c' = [c']) : pSt 1 (.pointer (some ⟨B, 2, none⟩)) c' H = some (undef, H.set B ⟨[a, b, c'], 1, false, false⟩) := by
  unfold pSt
  simp only [h, Option.bind_some, h2, List.all_cons, List.all_nil, h1]
  rfl
end
/-! ### what stays -/
theorem Sl.same {H H' : AH} {sz n : Nat} {v : Value} {cs : List Value} (h : Sl H sz v n cs) (hn : H.n ≤ H'.n) (hg : ∀ b, inB v b → H'.get b = H.get b) : Sl H' sz v n cs := by
  rcases h with h | ⟨C, o, h1, h2, h3, h4⟩ | ⟨C, o, c, b, h1, h2, h3, h4⟩
  · exact .inl h
  · exact .inr (.inl ⟨C, o, h1, by omega, (hg C ⟨_, _, _, h1⟩).trans h3, h4⟩)
  · exact .inr (.inr ⟨C, o, c, b, h1, by omega, (hg C ⟨_, _, _, h1⟩).trans h3, h4⟩)
theorem Own.same {H H' : AH} {n0 sz n : Nat} {v : Value} {cs : List Value} (h : Own n0 sz H v n cs) (hn : H.n ≤ H'.n) (hg : ∀ b, inB v b → H'.get b = H.get b) : Own n0 sz H' v n cs := by
  refine ⟨Sl.same h.1 hn hg, fun C o l c e => ?_⟩
  obtain ⟨a, blk, b, c⟩ := h.2 C o l c e
  exact ⟨a, blk, (hg C ⟨_, _, _, e⟩).trans b, c⟩
theorem v_new3 (fr : Fr) (H : AH) (dd : Option Nat) (t sz : Nat) (zs : List Value) : xval P (xc P T) ⟨dd, .new t sz zs, none⟩ fr H = some (.pointer (some ⟨H.n, 0, none⟩), H.push ⟨zs, sz, false, false⟩) := rfl
end Go.Det
