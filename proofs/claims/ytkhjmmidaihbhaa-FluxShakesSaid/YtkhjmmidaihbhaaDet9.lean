/- A part of a run of a program on a heap of its own, and that the machine does what that run says: no condition but those that each theorem names. -/
import Derived.Test.YtkhjmmidaihbhaaDet8
set_option linter.unusedSimpArgs false
set_option linter.unusedVariables false
namespace Go.Det

variable {P : Program} {G base : Nat} {W0 : World} {m : Mp} {H : AH} {w : World} {fr : Fr} {a : Act} {o : Oper}


/-- a fresh array: what an append that grows gives -/
theorem grow_sound {t e u ty : TypeId} {d : TypeDesc} {y y' : Value} {argTypes : Array TypeId} {i : TypeInfo} {zs cs olds olds' : List Value} {p : Option Addr} {l c' n : Nat}
    (ht : argTypes[0]? = some t) (hu' : argTypes[1]? = some u) (hu : P.underlying t = some (.slice e)) (hd : P.underlying u = some d) (hd2 : ∀ k, d ≠ .int k)
    (hz : zeroAt P e = some zs) (hi : P.info? e = some i) (hzl : zs.length = i.size) (hr : HRel G base W0 m H w) (hy : VRel m y y') (hn : srcLen y = some n) (hc : src H i.size n y = some cs)
    (hroom : ¬ l + n ≤ c') (hb1 : 1 ≤ i.bytes) (hbytes : (l + n) * i.bytes ≤ 140737488355328)
    (hold : (Builtin.firstCells i.size l (.slice p l c')).run P w.drew = .ok olds'.toArray w.drew) (holdr : LRel m olds olds') (holdl : olds.length = l * i.size) (hs1 : 1 ≤ i.size) (H2 : AH) (hr2 : HRel G base W0 m H2 w.drew) (hF2 : Fut m H w m H2 w.drew) :
    ∃ m' v' w', (Builtin.append_ argTypes ty #[.slice p l c', y']).run P w = .ok v' w' ∧ HRel G base W0 m' (H2.push ⟨olds ++ cs, i.size, true, false⟩) w' ∧ Fut m H w m' (H2.push ⟨olds ++ cs, i.size, true, false⟩) w' ∧ VRel m' (.slice (some ⟨H2.n, 0, none⟩) (l + n) (l + n)) v' := by
  obtain ⟨cs', hc1, hc2, hc3⟩ := run_firstCells (P := P) hr.drew hy hc
  obtain ⟨⟨z, hz1, hz2⟩, hz3⟩ := run_zero' hz w.drew
  obtain ⟨nc, hnc, hrun⟩ := run_app_grow (P := P) (w := w) (sz := i.size) (n := n) (l := l) (c' := c') (p := p) (y' := y') (cs' := cs') (olds := olds') (args := #[.slice p l c', y']) (ty := ty) (z := z)
    ht hu' rfl rfl hu hd hd2 hi rfl hb1 (srcLen_run hn hy w) hc1 hroom hold hz1 hbytes
  have hzsz : z.cells.size = i.size := by rw [← Array.length_toList, hz2, hzl]
  obtain ⟨hR, hF⟩ := hr2.pushL (olds ++ cs) (olds'.toArray ++ cs'.toArray ++ Builtin.zeroCells z.cells (nc - (l + n))) e i.size true false (by omega) (Builtin.zeroCells z.cells (nc - (l + n))).toList
    ⟨olds' ++ cs', (holdr.append hc2), by simp⟩
  refine ⟨_, _, _, hrun, hR, hF2.trans hF, ?_⟩
  have hlen : (olds ++ cs).length = (l + n) * i.size := by rw [List.length_append, holdl, hc3, Nat.add_mul]
  have hsize : nc * i.size = (olds'.toArray ++ cs'.toArray ++ Builtin.zeroCells z.cells (nc - (l + n))).size := by
    simp only [Array.size_append, List.size_toArray, zeroCells_len, hzsz]
    rw [← holdr.1, ← hc2.1, holdl, hc3, ← Nat.add_mul, ← Nat.add_mul]
    congr 1; omega
  refine push_sl m w.drew _ _ _ _ (l + n) (l + n) nc _ _ (Nat.le_refl _) hnc (fun h => ?_) (fun _ => hsize) (Nat.le_of_eq hsize)
  rcases h with h | h
  · simp at h
  · rw [hlen] at h; omega

/-- what an append gives -/
theorem app_sound {t e u ty : TypeId} {d : TypeDesc} {x y x' y' : Value} {argTypes : Array TypeId} {i : TypeInfo} {zs : List Value}
    (ht : argTypes[0]? = some t) (hu' : argTypes[1]? = some u) (hu : P.underlying t = some (.slice e)) (hd : P.underlying u = some d) (hd2 : ∀ k, d ≠ .int k)
    (hz : zeroAt P e = some zs) (hi : P.info? e = some i) (hzl : zs.length = i.size) (hs1 : 1 ≤ i.size) (hr : HRel G base W0 m H w) (hx : VRel m x x') (hy : VRel m y y')
    {v : Value} {H' : AH} (hxa : xapp H i.size i.bytes x y = some (v, H')) :
    ∃ m' v' w', (Builtin.append_ argTypes ty #[x', y']).run P w = .ok v' w' ∧ HRel G base W0 m' H' w' ∧ Fut m H w m' H' w' ∧ VRel m' v v' := by
  have hsO : sizeAt P e = some i.size := by simp [sizeAt, hi]
  unfold xapp at hxa
  cases hn : srcLen y with
  | none => simp [hn] at hxa
  | some n =>
  simp only [hn] at hxa
  cases hc : src H i.size n y with
  | none => simp [hc] at hxa
  | some cs =>
  simp only [hc] at hxa
  have hlen := srcLen_run (P := P) hn hy w
  obtain ⟨cs', hc1, hc2, hc3⟩ := run_firstCells (P := P) hr hy hc
  have hone' := lrel_one hc2 hr (src_one hc)
  split at hxa
  · -- nil
    obtain rfl := flatD_eq 4 _ _ rfl hx
    cases hn0 : Nat.beq n 0
    · simp only [hn0, cond_false] at hxa
      cases hcond : (Nat.ble (n * i.bytes) 140737488355328 && Nat.ble 1 i.bytes)
      · simp [hcond] at hxa
      · simp only [hcond, cond_true, Option.some.injEq, Prod.mk.injEq] at hxa
        obtain ⟨rfl, rfl⟩ := hxa
        simp only [Bool.and_eq_true, Nat.ble_eq] at hcond
        have hnn : ¬ n = 0 := fun h => by rw [h] at hn0; simp at hn0
        have := grow_sound (P := P) (ty := ty) (p := none) (l := 0) (c' := 0) (olds := []) (olds' := []) ht hu' hu hd hd2 hz hi hzl hr hy hn hc (by omega) hcond.2 (by simpa using hcond.1)
          (by simp [Builtin.firstCells]) .nil (by simp) hs1 H hr.drew (Fut.drew m H w)
        simpa using this
    · simp only [hn0, cond_true, Option.some.injEq, Prod.mk.injEq] at hxa
      obtain ⟨rfl, rfl⟩ := hxa
      obtain rfl : n = 0 := Nat.eq_of_beq_eq_true hn0
      refine ⟨m, .slice none 0 0, w, ?_, hr, .refl m H w, .nils⟩
      have := run_app_room (P := P) (w := w) (w' := w) (l := 0) (n := 0) (c' := 0) (p := none) (args := #[.slice none 0 0, y']) (ty := ty) ht hu' rfl rfl hu hd hd2 hsO hlen hc1 (Nat.le_refl _)
        (fun ad h => by simp at h) (fun _ => rfl)
      simpa using this
  · rename_i B off l c
    cases hb : H.get B with
    | none => simp [hb] at hxa
    | some blk =>
    simp only [hb] at hxa
    cases hcond : (!(Nat.beq blk.sz i.size) || !(Nat.ble l c) || !(Nat.ble (off + c * i.size) blk.cells.length) || !(Nat.ble 1 i.size))
    case true => simp [hcond] at hxa
    simp only [hcond, cond_false] at hxa
    simp only [Bool.or_eq_false_iff, Bool.not_eq_false', Nat.ble_eq] at hcond
    obtain ⟨⟨⟨g1, g2⟩, g3⟩, g4⟩ := hcond
    have g1 : blk.sz = i.size := Nat.eq_of_beq_eq_true g1
    obtain ⟨en, hen, hk⟩ := hr.live B blk hb
    have hesz : en.sz = i.size := by rw [hk.sz, g1]
    obtain ⟨ad, c', rfl, hcc, hexact, hnex, haddr, hc0l⟩ : ∃ ad c', x' = .slice (some ad) l c' ∧ c ≤ c' ∧ (en.exact off c → c' = c) ∧ (¬ en.exact off c → en.base + off + c' * en.sz = en.size) ∧
        (c' ≠ 0 → ad = ⟨en.b, en.base + off, none⟩ ∧ (0 < c → en.base + off + c' * en.sz ≤ en.size)) ∧ (c = 0 → l = 0) := by
      cases hx with
      | sl _ _ _ _ c' e' he h0 h1 h2 h3 h4 h5 =>
        obtain rfl : e' = en := by rw [hen] at he; exact (Option.some.inj he).symm
        exact ⟨_, c', rfl, h2, h3, h4, fun _ => ⟨rfl, fun _ => h5⟩, fun hz => by omega⟩
      | sl0 _ _ c' ad e' he h1 h2 h3 =>
        obtain rfl : e' = en := by rw [hen] at he; exact (Option.some.inj he).symm
        exact ⟨_, c', rfl, Nat.zero_le _, h1, h2, fun hne => ⟨h3 hne, fun h0 => by omega⟩, fun _ => rfl⟩
    cases hn0 : Nat.beq n 0
    case true =>
      simp only [hn0, cond_true, Option.some.injEq, Prod.mk.injEq] at hxa
      obtain ⟨rfl, rfl⟩ := hxa
      obtain rfl : n = 0 := Nat.eq_of_beq_eq_true hn0
      have hcs0 : cs' = [] := by
        have := hc2.1; rw [hc3] at this; simpa using this.symm
      subst hcs0
      refine ⟨m, .slice (some ad) l c', w, ?_, hr, .refl m H w, hx⟩
      have := run_app_room (P := P) (w := w) (w' := w) (l := l) (n := 0) (c' := c') (p := some ad) (args := #[.slice (some ad) l c', y']) (ty := ty) ht hu' rfl rfl hu hd hd2 hsO hlen hc1 (by omega)
        (fun ad h => by simp [storeCells]) (fun _ => rfl)
      simpa using this
    simp only [hn0, cond_false] at hxa
    have hnn : 0 < n := by
      rcases Nat.eq_zero_or_pos n with h | h
      · rw [h] at hn0; simp at hn0
      · exact h
    cases hin : Nat.ble (l + n) c
    case true =>
      simp only [hin, cond_true] at hxa
      have hin' : l + n ≤ c := by simpa using hin
      cases hro : blk.ro
      case true => simp [hro] at hxa
      simp only [hro, cond_false, Option.some.injEq, Prod.mk.injEq] at hxa
      obtain ⟨rfl, rfl⟩ := hxa
      obtain ⟨rfl, z2⟩ := haddr (by omega)
      have z2 := z2 (by omega)
      have hfit : off + l * i.size + 0 + cs.length ≤ blk.cells.length := by
        rw [hc3]
        have : l * i.size + n * i.size ≤ c * i.size := by rw [← Nat.add_mul]; exact Nat.mul_le_mul_right _ hin'
        omega
      obtain ⟨w', s1, s2, s3, s4⟩ := run_storeCells_rel (P := P) cs' cs 0 (off + l * i.size) B blk en H w hr hb hen hro hc2 hone' hfit
      refine ⟨m, .slice (some ⟨en.b, en.base + off, none⟩) (l + n) c', w', ?_, by simpa [hro] using s2, by simpa [hro] using Fut.of_store (cs := splice blk.cells (off + l * i.size) cs) hb hen (by rw [hk.ro]; exact hro) s3 s4, ?_⟩
      · have := run_app_room (P := P) (w := w) (w' := w') (l := l) (n := n) (c' := c') (p := some ⟨en.b, en.base + off, none⟩) (args := #[.slice (some ⟨en.b, en.base + off, none⟩) l c', y']) (ty := ty) ht hu' rfl rfl hu hd hd2 hsO hlen hc1 (by omega)
          (fun ad h => by simp at h; subst h; rw [addr_add, Nat.add_assoc]; exact s1) (fun h => by simp at h)
        exact this
      · exact .sl B off (l + n) c c' en hen (by omega) hin' hcc hexact hnex z2
    simp only [hin, cond_false] at hxa
    have hin' : ¬ l + n ≤ c := by intro h; rw [← Nat.ble_eq, hin] at h; simp at h
    cases hsm : (Nat.ble ((l + n) * i.bytes) 140737488355328 && Nat.ble 1 i.bytes)
    case false => simp only [hsm, Bool.not_false, cond_true] at hxa; cases hxa
    simp only [hsm, Bool.not_true, cond_false] at hxa
    obtain ⟨hsm1, hsm2⟩ := Bool.and_eq_true_iff.1 hsm
    have hsm : (l + n) * i.bytes ≤ 140737488355328 ∧ 1 ≤ i.bytes := ⟨Nat.le_of_ble_eq_true hsm1, Nat.le_of_ble_eq_true hsm2⟩
    -- the old cells, when they are read
    have holdc : off + l * i.size ≤ blk.cells.length := by
      have : l * i.size ≤ c * i.size := Nat.mul_le_mul_right _ g2
      omega
    have holdl : ((blk.cells.drop off).take (l * i.size)).length = l * i.size := by rw [List.length_take, List.length_drop]; omega
    have hold : ∃ olds', (Builtin.firstCells i.size l (.slice (some ad) l c')).run P w.drew = .ok (List.toArray olds') w.drew ∧ LRel m ((blk.cells.drop off).take (l * i.size)) olds' := by
      rcases Nat.eq_zero_or_pos c with h0 | h0
      · obtain rfl := hc0l h0
        exact ⟨[], by simp [Builtin.firstCells, loadCells, loadCellsFrom], by simpa using LRel.nil⟩
      · obtain ⟨rfl, _⟩ := haddr (by omega)
        obtain ⟨o', q1, q2⟩ := run_loadCells_rel (P := P) hr.drew hb hen off (l * i.size) holdc
        exact ⟨o', by simp only [Builtin.firstCells]; exact q1, q2⟩
    obtain ⟨olds', q1, q2⟩ := hold
    cases hex : (!blk.opn || Nat.blt (off + c * i.size) blk.cells.length)
    case true =>
      simp only [hex, cond_true, Option.some.injEq, Prod.mk.injEq] at hxa
      obtain ⟨rfl, rfl⟩ := hxa
      have hce : c' = c := hexact (by
        simp only [Bool.or_eq_true, Bool.not_eq_true'] at hex
        rcases hex with h | h
        · left; rw [hk.opn, h]
        · right; rw [hesz, hk.kn]; exact natlt h)
      subst hce
      exact grow_sound (P := P) (ty := ty) ht hu' hu hd hd2 hz hi hzl hr hy hn hc hin' hsm.2 hsm.1 q1 q2 holdl hs1 H hr.drew (Fut.drew m H w)
    simp only [hex, cond_false] at hxa
    cases hro : blk.ro
    case true => simp [hro] at hxa
    simp only [hro, cond_false, Option.some.injEq, Prod.mk.injEq] at hxa
    obtain ⟨rfl, rfl⟩ := hxa
    have hero : en.ro = false := by rw [hk.ro]; exact hro
    by_cases hroom : l + n ≤ c'
    · -- there is room
      have hc0 : c' ≠ 0 := by omega
      obtain ⟨had, _⟩ := haddr hc0
      have hnx : ¬ en.exact off c := by
        intro hex2
        have := hexact hex2
        omega
      have hao := hnex hnx
      subst had
      obtain ⟨cc, tt, fz, k1, k2, k3, k4, k5⟩ := hk.at_
      obtain ⟨hbase, hfz⟩ := k5 hero
      have hfit : en.base + off + l * i.size + 0 + cs'.length ≤ cc.size := by
        rw [← hc2.1, hc3, k2]
        have : l * i.size + n * i.size ≤ c' * i.size := by rw [← Nat.add_mul]; exact Nat.mul_le_mul_right _ hroom
        rw [hesz] at hao
        omega
      obtain ⟨w', c2, r1, r2, r3, r4, r5, r6, r7⟩ := run_storeCells_blk (P := P) (base := base) (W0 := W0) cs' 0 (en.base + off + l * i.size) en.b cc tt fz w k1 hfit hfz hone' hbase hr.below
      have hT := hr.take (w' := w') (c2 := c2) hb hen hero r2 (by rw [r3, k2]) (by rw [r3]; exact hfz) r5 r6 r7 hbase ((blk.cells.drop off).take (l * i.size) ++ cs) (en.base + off) i.size (by omega) (by
          rw [List.length_append, holdl, hc3, ← Nat.add_mul]
          have : (l + n) * i.size ≤ c' * i.size := Nat.mul_le_mul_right _ hroom
          rw [hesz] at hao; omega) (by
        intro j u hj
        rw [List.getElem?_append] at hj
        rw [r4]
        split at hj
        · rename_i hjl
          rw [holdl] at hjl
          rw [if_neg (by omega)]
          rw [Nat.add_assoc]
          rw [List.getElem?_take] at hj
          rw [if_pos hjl, List.getElem?_drop] at hj
          obtain ⟨u', p1, p2⟩ := k4 _ _ hj
          exact ⟨u', p1, p2⟩
        · rename_i hjl
          rw [holdl] at hj hjl
          obtain ⟨u', p1, p2⟩ := hc2.2 _ _ hj
          have hjl2 : j - l * i.size < cs'.length := (List.getElem?_eq_some_iff.1 p1).1
          rw [if_pos (by omega), show en.base + off + j - (en.base + off + l * i.size + 0) = j - l * i.size by omega]
          exact ⟨u', p1, p2⟩)
      refine ⟨_, .slice (some ⟨en.b, en.base + off, none⟩) (l + n) c', w', ?_, hT.1, hT.2, ?_⟩
      · have := run_app_room (P := P) (w := w) (w' := w') (l := l) (n := n) (c' := c') (p := some ⟨en.b, en.base + off, none⟩) (args := #[.slice (some ⟨en.b, en.base + off, none⟩) l c', y']) (ty := ty) ht hu' rfl rfl hu hd hd2 hsO hlen hc1 hroom
          (fun ad2 h => by simp at h; subst h; rw [addr_add]; exact r1) (fun h => by simp at h)
        exact this
      · have hlen2 : ((blk.cells.drop off).take (l * i.size) ++ cs).length = (l + n) * i.size := by rw [List.length_append, holdl, hc3, Nat.add_mul]
        have hnx2 : ¬ Ent.exact ⟨en.b, en.base + off, en.size, ((blk.cells.drop off).take (l * i.size) ++ cs).length, i.size, true, false⟩ 0 (l + n) := by
          rintro (h | h)
          · simp at h
          · have h' : 0 + (l + n) * i.size < ((blk.cells.drop off).take (l * i.size) ++ cs).length := h
            rw [hlen2] at h'; omega
        have hgo := VRel.sl (m := m.set H.n ⟨en.b, en.base + off, en.size, ((blk.cells.drop off).take (l * i.size) ++ cs).length, i.size, true, false⟩) H.n 0 (l + n) (l + n) c' ⟨en.b, en.base + off, en.size, ((blk.cells.drop off).take (l * i.size) ++ cs).length, i.size, true, false⟩
          (by simp [Mp.set]) (by omega) (Nat.le_refl _) hroom (fun h => absurd h hnx2) (fun _ => by simpa [hesz] using hao) (by rw [hesz] at hao; exact Nat.le_of_eq hao)
        exact hgo
    · exact grow_sound (P := P) (ty := ty) ht hu' hu hd hd2 hz hi hzl hr hy hn hc hroom hsm.2 hsm.1 q1 q2 holdl hs1 (H.kill B) (hr.drew.kill B) ((Fut.drew m H w).trans (Fut.kill m H w.drew B))
  · simp at hxa

end Go.Det
