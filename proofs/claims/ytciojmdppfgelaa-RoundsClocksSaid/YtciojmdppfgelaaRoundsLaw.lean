/- The plain law of RoundsSum. -/
import Derived.Test.YtciojmdppfgelaaRounds27
namespace Go.Proofs.Ytciojmdppfgelaa

theorem nodup_kput {l : List Int} (h : l.Nodup) (k : Int) : (kput l k).Nodup := by
  unfold kput
  split
  · exact h
  · rename_i hk
    rw [List.nodup_append]
    refine ⟨h, by simp, ?_⟩
    intro a ha b hb
    simp at hb
    subst hb
    intro e
    subst e
    exact hk ha
theorem mem_kput {l : List Int} {k x : Int} : x ∈ kput l k ↔ x ∈ l ∨ x = k := by
  unfold kput
  split
  · constructor
    · exact fun h => .inl h
    · rintro (h | rfl)
      · exact h
      · assumption
  · simp

theorem nodup_length {l r : List Int} (hl : l.Nodup) (hs : ∀ x, x ∈ l → x ∈ r) : l.length ≤ r.length := by
  induction l generalizing r with
  | nil => simp
  | cons a l ih =>
    obtain ⟨h1, h2⟩ := List.nodup_cons.1 hl
    have ha := hs a List.mem_cons_self
    have := ih (r := r.erase a) h2 (fun x hx => by
      have hne : x ≠ a := fun e => h1 (e ▸ hx)
      exact (List.mem_erase_of_ne hne).2 (hs x (List.mem_cons_of_mem _ hx)))
    rw [List.length_erase_of_mem ha] at this
    have hp := List.length_pos_of_mem ha
    simp only [List.length_cons]
    omega

/-- What z has more than y: 0 (then its names are among z's), or 1 (then z's are among its). -/
def Coup (z y : Clk) (d : Int) : Prop := z.procs = y.procs ∧ z.named.Nodup ∧ y.named.Nodup ∧
  ((z.n = y.n + d ∧ ∀ x, x ∈ y.named → x ∈ z.named) ∨ (z.n = y.n + d + 1 ∧ ∀ x, x ∈ z.named → x ∈ y.named))

theorem Coup.tick {z y : Clk} {d : Int} (h : Coup z y d) (p : Int) : Coup (z.tick p) (y.tick p) d := by
  obtain ⟨hp, hz, hy, hc⟩ := h
  unfold Clk.tick
  by_cases h1 : p < 0 ∨ y.procs ≤ p
  · rw [if_pos (by rw [hp]; exact h1), if_pos h1]
    exact ⟨hp, hz, hy, hc⟩
  rw [if_neg (by rw [hp]; exact h1), if_neg h1]
  have nz := nodup_kput hz p
  have ny := nodup_kput hy p
  rcases hc with ⟨hn, hs⟩ | ⟨hn, hs⟩
  · have hs' : ∀ x, x ∈ kput y.named p → x ∈ kput z.named p := fun x hx => mem_kput.2 ((mem_kput.1 hx).imp (hs x) id)
    have hle := nodup_length ny hs'
    by_cases g1 : ((kput z.named p).length : Int) < z.procs
    · rw [if_pos g1, if_pos (by rw [← hp]; omega)]
      exact ⟨hp, nz, ny, .inl ⟨hn, hs'⟩⟩
    · rw [if_neg g1]
      by_cases g2 : ((kput y.named p).length : Int) < y.procs
      · rw [if_pos g2]
        exact ⟨hp, List.nodup_nil, ny, .inr ⟨by simp only; omega, by simp⟩⟩
      · rw [if_neg g2]
        exact ⟨hp, List.nodup_nil, List.nodup_nil, .inl ⟨by simp only; omega, by simp⟩⟩
  · have hs' : ∀ x, x ∈ kput z.named p → x ∈ kput y.named p := fun x hx => mem_kput.2 ((mem_kput.1 hx).imp (hs x) id)
    have hle := nodup_length nz hs'
    by_cases g1 : ((kput y.named p).length : Int) < y.procs
    · rw [if_pos g1, if_pos (by rw [hp]; omega)]
      exact ⟨hp, nz, ny, .inr ⟨hn, hs'⟩⟩
    · rw [if_neg g1]
      by_cases g2 : ((kput z.named p).length : Int) < z.procs
      · rw [if_pos g2]
        exact ⟨hp, nz, List.nodup_nil, .inl ⟨by simp only; omega, by simp⟩⟩
      · rw [if_neg g2]
        exact ⟨hp, List.nodup_nil, List.nodup_nil, .inr ⟨by simp only; omega, by simp⟩⟩

theorem Coup.ticks {z y : Clk} {d : Int} (h : Coup z y d) (l : List Int) : Coup (z.ticks l) (y.ticks l) d := by
  induction l generalizing z y with
  | nil => exact h
  | cons p l ih => exact ih (h.tick p)

theorem Clk.tick_nodup {c : Clk} (h : c.named.Nodup) (p : Int) : (c.tick p).named.Nodup := by
  unfold Clk.tick
  split
  · exact h
  · split
    · exact nodup_kput h p
    · exact List.nodup_nil
theorem Clk.ticks_nodup (l : List Int) : ∀ {c : Clk}, c.named.Nodup → (c.ticks l).named.Nodup := by
  induction l with
  | nil => exact fun h => h
  | cons p l ih => exact fun h => ih (c := Clk.tick _ p) (Clk.tick_nodup h p)
theorem Clk.tick_procs (c : Clk) (p : Int) : (c.tick p).procs = c.procs := by
  unfold Clk.tick
  split
  · rfl
  · split <;> rfl
theorem Clk.ticks_procs (l : List Int) : ∀ (c : Clk), (c.ticks l).procs = c.procs := by
  induction l with
  | nil => exact fun _ => rfl
  | cons p l ih => exact fun c => (ih (c.tick p)).trans (c.tick_procs p)

/-- The law. -/
theorem rounds_sum (n : Int) (a b : List Int) : ((Clk.new n).ticks a).n + ((Clk.new n).ticks b).n ≤ (((Clk.new n).ticks a).ticks b).n ∧ (((Clk.new n).ticks a).ticks b).n ≤ ((Clk.new n).ticks a).n + ((Clk.new n).ticks b).n + 1 := by
  have h : Coup ((Clk.new n).ticks a) (Clk.new n) ((Clk.new n).ticks a).n :=
    ⟨Clk.ticks_procs a _, Clk.ticks_nodup a List.nodup_nil, List.nodup_nil, .inl ⟨by simp [Clk.new], by simp [Clk.new]⟩⟩
  obtain ⟨_, _, _, h1 | h1⟩ := h.ticks b <;> omega

end Go.Proofs.Ytciojmdppfgelaa
