/- The plain functions in use. Conditions: none. -/
import Derived.Test.YteiabmkcmmbbjaaGreatQ3S
